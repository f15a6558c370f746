/- latinerlaw14.FramePlays answers true. Conditions: the package's variables hold their sentinels; the texts read. -/
import Derived.Test.YtglmnglaliljdaaDoorFrameZ
import Derived.Test.YtglmnglaliljdaaDoorFrameK
namespace Go.Proofs.YtglmnglaliljdaaDoor.Frame
open Go.RowKit Size
set_option linter.unusedVariables false
theorem fed_sum (l : List UInt8) (a c : Int) (s : ByteArray) (ha : 0 ≤ a) : 0 ≤ (feedSt l a c s).2.2.1 ∧ (feedSt l a c s).2.2.1 + ((feedSt l a c s).2.1.length : Int) ≤ a + l.length + s.size ∧ (feedSt l a c s).1.length ≤ l.length + s.size := by
  unfold feedSt
  by_cases hc : c ≠ 0
  · rw [if_pos hc]; simp; omega
  · rw [if_neg hc]
    have hs : s.data.toList.length = s.size := by rw [Array.length_toList]; rfl
    have hlt : (l ++ s.data.toList).length < l.length + s.size + 1 := by rw [List.length_append, hs]; omega
    obtain ⟨p1, p2, p3⟩ := run_parts _ _ hlt
    have h1 := congrArg List.length p1
    rw [List.length_append, List.length_append, hs] at h1
    have h2 := flat_len _ p3
    dsimp only
    have e : fed l s = run (l.length + s.size + 1) (l ++ s.data.toList) := rfl
    rw [e, p2]
    refine ⟨by omega, ?_, by omega⟩
    split
    · rw [List.length_nil]; omega
    · omega
set_option maxRecDepth 100000 in
set_option maxHeartbeats 8000000 in
theorem plays (v : Value) (zs : List ByteArray) (w : World) (p : Nat → Addr) (hG : Globs w p) (hv : RT w v zs) :
    Calls Tryd.prog 3 #[v] w fun e w' => e = .returned (.bool true) ∧ Below w.heap.size w w' := by
  obtain ⟨A, c, rfl, hzs, hsz⟩ := hv
  have HV := Aside.mk (show RT w (.slice A zs.length c) zs from ⟨A, c, rfl, hzs, hsz⟩)
  clear hzs hsz
  go_enter Tryd.func3, Tryd.ntmps3
  go_wp2_with fail
  refine (shown w p hG).mono ?_
  rintro e w1 ⟨rfl, hb1⟩
  have B1 := Aside.mk hb1
  have G1 := Aside.mk (hG.below hb1)
  have HV1 := Aside.mk (show RT w1 (.slice A zs.length c) zs from by
    obtain ⟨A', c', e, hx, hy⟩ := HV.out
    exact ⟨A', c', e, fun hn => by obtain ⟨ad, e2, hc⟩ := hx hn; exact ⟨ad, e2, fun j z hj => cell_below (hc j z hj) hb1⟩, hy⟩)
  clear hb1 hG
  go_wp2_with fail
  refine (few _ zs w1 HV1.out).mono ?_
  rintro e w2 ⟨v2, rfl, hO, hb⟩
  have B2 := Aside.mk (below_then B1.out hb)
  have G2 := Aside.mk (G1.out.below hb)
  have O2 := Aside.mk hO
  have hs1 : w.heap.size ≤ w1.heap.size := B1.out.size
  have hs2 : w1.heap.size ≤ w2.heap.size := hb.size
  generalize hcz : (zs.map cutS).take 30 = cz at O2
  have HCL := Aside.mk (show cz.length ≤ 30 ∧ ∀ z ∈ cz, z.size ≤ 4100 from by
    subst hcz
    refine ⟨by rw [List.length_take]; omega, fun z hz => ?_⟩
    obtain ⟨y, _, rfl⟩ := List.mem_map.1 (List.mem_of_mem_take hz)
    exact cutS_size y)
  clear hO hb hcz
  obtain ⟨A2, c2, rfl⟩ := (own_rs O2.out).len
  have R2 := Aside.mk (own_rs O2.out)
  go_wp2_with fail
  refine (new w2 p (fun _ => False)).mono ?_
  rintro e w3 ⟨rfl, hb, hF, hlt⟩
  have hgf := G2.out.free (Nat.le_refl w2.heap.size)
  have B3 := Aside.mk (below_then B2.out hb)
  have G3 := Aside.mk (G2.out.below hb)
  have F3 := Aside.mk hF
  have R3 := Aside.mk (R2.out.below hb)
  clear hb hF
  have B4 := Aside.mk (below_then B3.out (below_new w3 (.cells #[.string ⟨#[]⟩, .int .i64 0, .int .i64 0] 30)))
  have G4 := Aside.mk (G3.out.below (below_new w3 (.cells #[.string ⟨#[]⟩, .int .i64 0, .int .i64 0] 30)))
  have F4 := Aside.mk (F3.out.below (below_new w3 (.cells #[.string ⟨#[]⟩, .int .i64 0, .int .i64 0] 30)))
  have R4 := Aside.mk (R3.out.below (below_new w3 (.cells #[.string ⟨#[]⟩, .int .i64 0, .int .i64 0] 30)))
  have M4 := Aside.mk (show RF (w3.alloc (.cells #[.string ⟨#[]⟩, .int .i64 0, .int .i64 0] 30)) w3.heap.size [] 0 0 from World.alloc_heap_new _ _)
  have hs4 : (w3.alloc (.cells #[.string ⟨#[]⟩, .int .i64 0, .int .i64 0] 30)).heap.size = w3.heap.size + 1 := by simp
  go_wp2_with fail
  generalize w3.alloc (.cells #[.string ⟨#[]⟩, .int .i64 0, .int .i64 0] 30) = w4 at B4 G4 F4 R4 M4 hs4 ⊢
  go_loopg [6] cz.length (fun gk v6 wr => ∃ i : Nat, v6 = .int .i64 i ∧ Aside (∃ l a c, i + gk = cz.length ∧ 0 ≤ a ∧ a + (List.length l : Int) ≤ 4100 * i ∧ l.length ≤ 4005 ∧ FS wr (fun b => b ≠ w3.heap.size) w2.heap.size l a c p ∧ RF wr w3.heap.size l a c ∧ Globs wr p ∧ RS wr (fun b => b < w2.heap.size) (.slice A2 cz.length c2) cz ∧ Below w.heap.size w wr ∧ w4.heap.size ≤ wr.heap.size))
  case atStart => exact ⟨0, rfl, ⟨[], 0, 0, by omega, by omega, by simp, by simp, F4.out.mono (fun b h => h.elim), M4.out, G4.out, R4.out.mono (fun b hb => (own_base O2.out b hb.2.symm).2), B4.out, Nat.le_refl _⟩⟩
  case round =>
    obtain ⟨i, rfl, HI⟩ := hrel
    obtain ⟨l, a, cc, i1, i2, i3, i4, i5, i6, i7, i8, i9, i10⟩ := HI.out
    clear HI
    have hgm := G3.out.free (Nat.le_refl w3.heap.size)
    have hi30 : i ≤ 30 := by have := HCL.out.1; omega
    have I5 := Aside.mk i5
    have I6 := Aside.mk i6
    have I7 := Aside.mk i7
    have I8 := Aside.mk i8
    have I9 := Aside.mk i9
    clear i5 i6 i7 i8 i9
    by_cases hi : i < cz.length
    · obtain ⟨m, rfl⟩ : ∃ m, gk = m + 1 := ⟨gk - 1, by omega⟩
      have hii : (i : Int) < (cz.length : Int) := by omega
      obtain ⟨A', c', e, hxx⟩ := I8.out
      obtain ⟨b, o, rfl, hbb, hcl⟩ := hxx (by intro e; rw [e] at hi; simp at hi)
      simp only [Value.slice.injEq] at e
      obtain ⟨rfl, _, rfl⟩ := e
      have cx := hcl i cz[i] (List.getElem?_eq_getElem hi)
      have hx := HCL.out.2 cz[i] (List.getElem_mem hi)
      generalize cz[i] = x at cx hx
      clear hcl hxx
      go_wp2_with fail
      refine (feed I5.out I7.out x (by omega) i2 (by omega) hgf (fun k hk => by omega)).mono ?_
      have hsum := fed_sum l a cc x i2
      have hrest := fed_rest l a cc x i4
      obtain ⟨P2, l2, a2, k2, hR2⟩ : ∃ P2 l2 a2 k2, feedSt l a cc x = (P2, l2, a2, k2) := ⟨_, _, _, _, rfl⟩
      have HR2 := Aside.mk hR2
      rw [hR2] at hsum hrest ⊢
      dsimp only at hsum hrest ⊢
      clear hR2
      rintro e w5 ⟨va, rfl, hr, hg, hF⟩
      have K1 := Aside.mk (show RF w5 w3.heap.size l a cc from blk_grown I6.out hg (by simp; omega))
      have K2 := Aside.mk hF
      have K3 := Aside.mk hr
      have K4 := Aside.mk (I7.out.grown hgf hg)
      have K5 := Aside.mk (I8.out.grown hg (fun b hb => by simp; omega))
      have K6 := Aside.mk (below_grown I9.out hg (Nat.le_trans hs1 hs2))
      have hs5 : wr.heap.size ≤ w5.heap.size := hg.size
      have cx5 := cell_grown cx hg (by simp; omega)
      obtain ⟨Aa, ca, rfl⟩ := hr.len
      clear hr hg hF cx
      go_wp2_with fail
      refine (refFeed K1.out x (by omega) i2 (by omega)).mono ?_
      rw [HR2.out]
      dsimp only
      rintro e w6 ⟨vb, rfl, hO, hg, hR⟩
      have L1 := Aside.mk hR
      have L2 := Aside.mk (K2.out.grown hg (by simp; omega) (fun b hb => by simpa using hb))
      have L3 := Aside.mk (K3.out.grown hg (fun b hb => by simp; omega))
      have L4 := Aside.mk (K4.out.grown hgm hg)
      have L5 := Aside.mk (K5.out.grown hg (fun b hb => by simp; omega))
      have L6 := Aside.mk (below_grown K6.out hg (by omega))
      have L7 := Aside.mk (own_rs hO)
      have hs6 : w5.heap.size ≤ w6.heap.size := hg.size
      clear hO hg hR cx5
      go_wp2_with fail
      refine (texts L3.out L7.out (by simp [txt]; omega)).mono ?_
      rw [show decide (txt P2 = txt P2) = true from decide_eq_true rfl]
      rintro e w7 ⟨rfl, hb⟩
      have M1 := Aside.mk (show RF w7 w3.heap.size l2 a2 k2 from blk_below L1.out hb)
      have M2 := Aside.mk (L2.out.below hb)
      have M5 := Aside.mk (L4.out.below hb)
      have M6 := Aside.mk (L5.out.below hb)
      have M7 := Aside.mk (below_then L6.out hb)
      have hs7 : w6.heap.size ≤ w7.heap.size := hb.size
      clear hb
      go_wp2_with fail
      refine (same M2.out M5.out M1.out).mono ?_
      rintro e w8 ⟨rfl, hb⟩
      have N1 := Aside.mk (show RF w8 w3.heap.size l2 a2 k2 from blk_below M1.out hb)
      have N2 := Aside.mk (M2.out.below hb)
      have N5 := Aside.mk (M5.out.below hb)
      have N6 := Aside.mk (M6.out.below hb)
      have N7 := Aside.mk (below_then M7.out hb)
      have hs8 : w7.heap.size ≤ w8.heap.size := hb.size
      clear hb
      go_wp2_with fail
      refine (kept N2.out).mono ?_
      rintro e w9 ⟨rfl, hb⟩
      have O1 := Aside.mk (show RF w9 w3.heap.size l2 a2 k2 from blk_below N1.out hb)
      have O2' := Aside.mk (N2.out.below hb)
      have O5 := Aside.mk (N5.out.below hb)
      have O6 := Aside.mk (N6.out.below hb)
      have O7 := Aside.mk (below_then N7.out hb)
      have hs9 : w8.heap.size ≤ w9.heap.size := hb.size
      clear hb
      have hki : (l2.length : Int) ≤ 4005 := by omega
      go_wp2
      go_roundg m
      case measure => omega
      case rel =>
        exact ⟨i + 1, by go_num, ⟨l2, a2, k2, by omega, hsum.1, by push_cast; omega, hrest, O2'.out, O1.out, O5.out, O6.out, O7.out, by omega⟩⟩
    · have hin : cz.length ≤ i := by omega
      have hini : (cz.length : Int) ≤ (i : Int) := by omega
      clear hi i1 i3
      go_wp2
      go_ret
      exact ⟨rfl, I9.out⟩
end Go.Proofs.YtglmnglaliljdaaDoor.Frame
