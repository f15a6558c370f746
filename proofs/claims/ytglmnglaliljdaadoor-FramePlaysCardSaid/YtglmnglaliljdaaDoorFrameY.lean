/- latinerref14.(*Framer).Feed tells what the program's Feed tells. Conditions: the shape of memory that each theorem names. -/
import Derived.Test.YtglmnglaliljdaaDoorFrameX
namespace Go.Proofs.YtglmnglaliljdaaDoor.Frame
open Go.RowKit Size
set_option linter.unusedVariables false
def ba (l : List UInt8) : ByteArray := ⟨l.toArray⟩
/-- the document's Framer at block f -/
def RF (w : World) (f : Nat) (l : List UInt8) (a c : Int) : Prop := w.heap[f]? = some (.cells #[.string (ba l), .int .i64 a, .int .i64 c] 30 (0, 0))
set_option maxRecDepth 100000 in
theorem ref_broken {w : World} {f : Nat} {l : List UInt8} {a c : Int} (h : RF w f l a c) (s : ByteArray) (hc : c ≠ 0) :
    Calls Tryd.prog 11 #[.pointer (some ⟨f, 0, none⟩), .string s] w fun e w' => e = .returned (.tuple #[.slice none 0 0, .int .i64 c]) ∧ Below w.heap.size w w' := by
  have c2 : w.cell? ⟨f, 2, none⟩ = some (.int .i64 c) := cel h 2 rfl
  have q0 : (c != 0) = true := by simp [hc]
  clear hc h
  go_enter Tryd.func11, Tryd.ntmps11
  go_wp2
  go_quiet (fail)
  go_wp2
  go_ret2
  exact ⟨rfl, below_drewN _ _⟩
set_option maxRecDepth 100000 in
set_option maxHeartbeats 4000000 in
theorem ref_goes {w : World} {f : Nat} {l : List UInt8} {a : Int} (h : RF w f l a 0) (s : ByteArray) (hs : l.length + s.size ≤ 100000000) (ha : 0 ≤ a) (ha2 : a ≤ 100000000) :
    Calls Tryd.prog 11 #[.pointer (some ⟨f, 0, none⟩), .string s] w fun e w' => ∃ v, e = .returned (.tuple #[v, .int .i64 (feedSt l a 0 s).2.2.2]) ∧
      Own w' w.heap.size v (txt (feedSt l a 0 s).1) ∧ w.grownBy w' (some f) ∧ RF w' f (feedSt l a 0 s).2.1 (feedSt l a 0 s).2.2.1 (feedSt l a 0 s).2.2.2 := by
  have hlt : f < w.heap.size := (Array.getElem?_eq_some_iff.1 h).1
  have c0 : w.cell? ⟨f, 0, none⟩ = some (.string (ba l)) := cel h 0 rfl
  have c2 : w.cell? ⟨f, 2, none⟩ = some (.int .i64 0) := cel h 2 rfl
  have f0 := frz h 0
  have H := Aside.mk h
  have HS := Aside.mk hs
  have hbl : (ba l).size ≤ 100000000 := by rw [show (ba l).size = l.length from size_list l]; omega
  have hsl : s.size ≤ 100000000 := by omega
  clear h
  go_enter Tryd.func11, Tryd.ntmps11
  go_wp2_with fail
  have hn0 : (l ++ s.data.toList).length = l.length + s.size := by rw [List.length_append, show s.data.toList.length = s.size by rw [Array.length_toList]; rfl]
  have hba : ba (l ++ s.data.toList) = ba l ++ s := by
    apply ByteArray.ext
    apply Array.ext'
    simp [ba]
  have hF : feedSt l a 0 s = ((run (l.length + s.size + 1) (l ++ s.data.toList)).1, if codeOf (run (l.length + s.size + 1) (l ++ s.data.toList)).2.2.2 ≠ 0 then [] else (run (l.length + s.size + 1) (l ++ s.data.toList)).2.1, a + (run (l.length + s.size + 1) (l ++ s.data.toList)).2.2.1, codeOf (run (l.length + s.size + 1) (l ++ s.data.toList)).2.2.2) := by unfold feedSt fed; rw [if_neg (by simp)]
  have HF := Aside.mk hF
  have HN := Aside.mk hn0
  have HW := Aside.mk (show RF (w.setCell ⟨f, 0, none⟩ (.string (ba l ++ s))) f (l ++ s.data.toList) a 0 from by unfold RF; rw [hba]; exact set_blk H.out 0 _)
  clear hF hn0 hba
  go_loopg [6] (l.length + s.size + 1) (fun gk v6 wr => Aside (∃ pre l1 a1, (run (l.length + s.size + 1) (l ++ s.data.toList)).1 = pre ++ (run gk l1).1 ∧ (run (l.length + s.size + 1) (l ++ s.data.toList)).2.1 = (run gk l1).2.1 ∧ a + (run (l.length + s.size + 1) (l ++ s.data.toList)).2.2.1 = a1 + (run gk l1).2.2.1 ∧ (run (l.length + s.size + 1) (l ++ s.data.toList)).2.2.2 = (run gk l1).2.2.2 ∧ pre.length + gk = l.length + s.size + 1 ∧ l1.length < gk ∧ 0 ≤ a1 ∧ a1 + l1.length ≤ 1000000000 ∧ Own wr w.heap.size v6 (txt pre) ∧ RF wr f l1 a1 0 ∧ w.grownBy wr (some f)))
  case atStart => exact ⟨[], _, a, rfl, rfl, rfl, rfl, by simp, by rw [HN.out]; omega, ha, by rw [HN.out]; push_cast; omega, World.ownsRow_nil _ _ _ _, HW.out, set_grown _ _ _ _⟩
  case round =>
    obtain ⟨pre, l1, a1, e1, e2, e3, e4, hpn, hl1, ha1, hal1, hO1, hR1, hg1⟩ := hrel.out
    have d0 : wr.cell? ⟨f, 0, none⟩ = some (.string (ba l1)) := cel hR1 0 rfl
    have d1 : wr.cell? ⟨f, 1, none⟩ = some (.int .i64 a1) := cel hR1 1 rfl
    have d2 : wr.cell? ⟨f, 2, none⟩ = some (.int .i64 0) := cel hR1 2 rfl
    have g0 := frz hR1 0
    have g1 := frz hR1 1
    have g2 := frz hR1 2
    have HO1 := Aside.mk hO1
    have HR1 := Aside.mk hR1
    have HG1 := Aside.mk hg1
    have HE := Aside.mk (And.intro e1 (And.intro e2 (And.intro e3 (And.intro e4 hpn))))
    have hpre : pre.length ≤ 200000000 := by omega
    have hsz : (ba l1).size = l1.length := size_list l1
    have RG := longOf_range l1
    obtain ⟨m, rfl⟩ : ∃ m, gk = m + 1 := ⟨gk - 1, by omega⟩
    clear hrel e1 e2 e3 e4 hpn hO1 hR1 hg1
    have HLK := Aside.mk (look (ba l1) wr)
    obtain ⟨k, c, hkc⟩ : ∃ k c, longOf l1 = (k, c) := ⟨_, _, rfl⟩
    have hrun : run (m + 1) l1 = if c ≠ 0 then ([], l1, 0, c) else if l1.length < k.toNat then ([], l1, 0, 1) else (l1.take k.toNat :: (run m (l1.drop k.toNat)).1, (run m (l1.drop k.toNat)).2.1, k.toNat + (run m (l1.drop k.toNat)).2.2.1, (run m (l1.drop k.toNat)).2.2.2) := by
      simp only [run, hkc]
    have hlk := look_longOf l1
    rw [hkc] at hlk RG
    dsimp only at hlk RG
    rw [show (⟨l1.toArray⟩ : ByteArray) = ba l1 from rfl] at hlk
    rw [hlk] at HLK
    have HRUN := Aside.mk hrun
    clear hkc hrun hlk
    by_cases hc1 : c = 1
    · subst hc1
      rw [if_pos rfl] at HLK
      rw [if_pos (by decide)] at HRUN
      go_wp2_with fail
      refine HLK.out.mono ?_
      rintro e wr ⟨rfl, rfl⟩
      have hfs : feedSt l a 0 s = (pre, l1, a1, 0) := by
        rw [HF.out, HE.out.1, HE.out.2.1, HE.out.2.2.1, HE.out.2.2.2.1, HRUN.out]
        simp [codeOf]
      have HFS := Aside.mk hfs
      clear hfs
      go_wp2
      go_ret2
      rw [HFS.out]
      exact ⟨_, rfl, HO1.out, HG1.out, HR1.out⟩
    rw [if_neg hc1] at HLK
    by_cases hc : c = 0
    · subst hc
      rw [if_neg (by simp)] at HRUN
      obtain ⟨kn, rfl⟩ : ∃ kn : Nat, k = kn := ⟨k.toNat, by omega⟩
      rw [Int.toNat_natCast] at HRUN
      have hk2 : (2 : Int) ≤ (kn : Int) := RG.2.2 rfl
      have hk5 : (kn : Int) ≤ 5000 := RG.2.1
      have hk0 : ((kn : Int) == 0) = false := by simp; omega
      have hkne : kn ≠ 0 := by omega
      clear RG hc1
      by_cases hlk : l1.length < kn
      · rw [if_pos hlk] at HRUN
        have hlki : (l1.length : Int) < (kn : Int) := by omega
        have hfs : feedSt l a 0 s = (pre, l1, a1, 0) := by
          rw [HF.out, HE.out.1, HE.out.2.1, HE.out.2.2.1, HE.out.2.2.2.1, HRUN.out]
          simp [codeOf]
        have HFS := Aside.mk hfs
        clear hfs
        go_wp2_with fail
        refine HLK.out.mono ?_
        rintro e wr ⟨rfl, rfl⟩
        go_wp2
        go_ret2
        rw [HFS.out]
        exact ⟨_, rfl, HO1.out, HG1.out, HR1.out⟩
      · rw [if_neg hlk] at HRUN
        have hkl : kn ≤ l1.length := by omega
        have hkli : (kn : Int) ≤ (l1.length : Int) := by omega
        clear hlk
        go_wp2_with fail
        refine HLK.out.mono ?_
        rintro e wr ⟨rfl, rfl⟩
        clear HLK
        obtain ⟨y, hy⟩ : ∃ y, y = (ba l1).extract 0 kn := ⟨_, rfl⟩
        have J1 := Aside.mk (show Own (wr.alloc (.cells #[.string y] 9)) w.heap.size u6 (txt pre) from World.ownsRow.alloc HO1.out _)
        have J2 := Aside.mk (rs_lit wr y)
        rw [hy] at J1 J2
        go_wp2_with (refine wpList_texts rfl (.tmp 58) (.tmp 65) rfl rfl J1.out rfl J2.out (by simp [txt]; omega) (by simp; have := HG1.out.size; omega) ?_)
        intro v' w6 hown hgrow hblk
        have hty : [(ba l1).extract 0 kn] = txt [l1.take kn] := by
          have h1 : (ba l1).extract 0 kn = ba (l1.take kn) := by
            apply ByteArray.ext
            apply Array.ext'
            simp [ba]
          rw [h1]
          rfl
        have htl : (ba l1).extract kn l1.length = ba (l1.drop kn) := by
          apply ByteArray.ext
          apply Array.ext'
          simp [ba]
          exact List.take_of_length_le (by rw [List.length_drop]; exact Nat.le_refl _)
        rw [hty, show txt pre ++ txt [l1.take kn] = txt (pre ++ [l1.take kn]) by simp [txt]] at hown
        have hnf : ∀ b, u6.ownBlock = some b → b ≠ f := fun b hb e => by have := (own_base J1.out b hb).1; omega
        have hgw : wr.grownBy w6 u6.ownBlock := ⟨hgrow.os, hgrow.tape, hgrow.output, Nat.le_trans (below_new wr _).size hgrow.size, fun i hi hr => (hgrow.block i (Nat.lt_of_lt_of_le hi (below_new wr _).size) hr).trans ((below_new wr _).block i hi)⟩
        have hR6 : RF w6 f l1 a1 0 := blk_grown HR1.out hgw (fun e => hnf f e.symm rfl)
        have d0 : w6.cell? ⟨f, 0, none⟩ = some (.string (ba l1)) := cel hR6 0 rfl
        have d1 : w6.cell? ⟨f, 1, none⟩ = some (.int .i64 a1) := cel hR6 1 rfl
        have g0 := frz hR6 0
        have g1 := frz hR6 1
        have HR6 := Aside.mk hR6
        have L1 := Aside.mk hown
        have L2 := Aside.mk hgw
        have HTL := Aside.mk htl
        clear hown hgrow hblk hty htl hnf hgw hR6
        go_wp2
        go_roundg m
        case measure => omega
        case rel =>
          have hld : (l1.drop kn).length + kn = l1.length := by rw [List.length_drop]; omega
          have hnv : ∀ (x : Value) (j : Nat) (W : World), Own W w.heap.size v' (txt (pre ++ [l1.take kn])) → Own (W.setCell ⟨f, j, none⟩ x) w.heap.size v' (txt (pre ++ [l1.take kn])) := fun x j W hW => World.ownsRow.kept hW (set_grown W f j x) (by
            rcases hu : v'.ownBlock with _ | b
            · exact .inl rfl
            · refine .inr (fun e => ?_)
              have := (own_base hW b hu).1
              simp at e
              omega)
          refine ⟨pre ++ [l1.take kn], l1.drop kn, a1 + kn, ?_, ?_, ?_, ?_, ?_, by omega, by omega, by omega, hnv _ _ _ (hnv _ _ _ L1.out), ?_, ?_⟩
          · rw [HE.out.1, HRUN.out]; simp
          · rw [HE.out.2.1, HRUN.out]
          · rw [HE.out.2.2.1, HRUN.out]; push_cast; omega
          · rw [HE.out.2.2.2.1, HRUN.out]
          · have := HE.out.2.2.2.2; rw [List.length_append, List.length_singleton]; omega
          · unfold RF
            rw [← HTL.out]
            exact set_blk (set_blk HR6.out 0 _) 1 _
          · refine grown_trans (grown_trans ?_ (set_grown _ _ _ _)) (set_grown _ _ _ _)
            exact ⟨L2.out.os.trans HG1.out.os, L2.out.tape.trans HG1.out.tape, L2.out.output.trans HG1.out.output, Nat.le_trans HG1.out.size L2.out.size, fun i hi hr => (L2.out.block i (Nat.lt_of_lt_of_le hi HG1.out.size) (fun e => by have := (own_base HO1.out i e.symm).1; omega)).trans (HG1.out.block i hi hr)⟩
    · rw [if_pos hc] at HRUN
      have qc : (c != 0) = true := by simp [hc]
      have hfs : feedSt l a 0 s = (pre, [], a1, c) := by
        rw [HF.out, HE.out.1, HE.out.2.1, HE.out.2.2.1, HE.out.2.2.2.1, HRUN.out]
        simp [codeOf, hc, hc1]
      have HFS := Aside.mk hfs
      clear hfs hc hc1 RG
      go_wp2_with fail
      refine HLK.out.mono ?_
      rintro e wr ⟨rfl, rfl⟩
      go_wp2
      go_ret2
      rw [HFS.out]
      have hnv : ∀ (x : Value) (j : Nat) (W : World), Own W w.heap.size u6 (txt pre) → Own (W.setCell ⟨f, j, none⟩ x) w.heap.size u6 (txt pre) := fun x j W hW => World.ownsRow.kept hW (set_grown W f j x) (by
        rcases hu : u6.ownBlock with _ | b
        · exact .inl rfl
        · refine .inr (fun e => ?_)
          have := (own_base hW b hu).1
          simp at e
          omega)
      exact ⟨_, rfl, hnv _ _ _ (hnv _ _ _ HO1.out), grown_trans (grown_trans HG1.out (set_grown _ _ _ _)) (set_grown _ _ _ _), set_blk (set_blk HR1.out 0 _) 2 _⟩
/-- the document's Feed -/
theorem refFeed {w : World} {f : Nat} {l : List UInt8} {a c : Int} (h : RF w f l a c) (s : ByteArray) (hs : l.length + s.size ≤ 100000000) (ha : 0 ≤ a) (ha2 : a ≤ 100000000) :
    Calls Tryd.prog 11 #[.pointer (some ⟨f, 0, none⟩), .string s] w fun e w' => ∃ v, e = .returned (.tuple #[v, .int .i64 (feedSt l a c s).2.2.2]) ∧
      Own w' w.heap.size v (txt (feedSt l a c s).1) ∧ w.grownBy w' (some f) ∧ RF w' f (feedSt l a c s).2.1 (feedSt l a c s).2.2.1 (feedSt l a c s).2.2.2 := by
  by_cases hc : c = 0
  · subst hc
    exact ref_goes h s hs ha ha2
  · have e : feedSt l a c s = ([], l, a, c) := by unfold feedSt; rw [if_pos hc]
    rw [e]
    refine (ref_broken h s hc).mono ?_
    rintro e w' ⟨rfl, hb⟩
    exact ⟨_, rfl, World.ownsRow_nil _ _ _ _, grown_of_below hb _, blk_below h hb⟩
end Go.Proofs.YtglmnglaliljdaaDoor.Frame
