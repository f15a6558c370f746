/- latinerlaw14.shown: the known pieces are told. Conditions: the package's variables hold their sentinels. -/
import Derived.Test.YtglmnglaliljdaaDoorFrameH
import Derived.Test.YtglmnglaliljdaaDoorTexts
namespace Go.Proofs.YtglmnglaliljdaaDoor.Frame
open Go.RowKit Size
set_option linter.unusedVariables false
/-- what Feed does to a Framer in order, as functions of its list, its place and its number -/
def fed (l : List UInt8) (s : ByteArray) : List (List UInt8) × List UInt8 × Nat × Int := run (l.length + s.size + 1) (l ++ s.data.toList)
theorem rs_of_own {w : World} {base : Nat} {v : Value} {l : List (List UInt8)} (h : w.ownsRow base 9 1 v l.length (strs l)) : RS w (fun b => base ≤ b ∧ b < w.heap.size) v (l.map fun x => ⟨x.toArray⟩) := by
  rcases h.2 with ⟨rfl, h0⟩ | ⟨g, cap, cur, rfl, hb, hh, _⟩
  · have : l = [] := List.eq_nil_of_length_eq_zero h0
    subst this
    exact ⟨none, 0, rfl, fun h => absurd rfl h⟩
  · refine ⟨some ⟨g, 0, none⟩, cap, by rw [List.length_map], fun _ => ⟨g, 0, rfl, ⟨hb, (Array.getElem?_eq_some_iff.1 hh).1⟩, fun j s hs => ?_⟩⟩
    have h1 := h.cells (g := g) rfl j (.string s) (by
      rw [strs, List.getElem?_map]
      rw [List.getElem?_map] at hs
      obtain ⟨x, hx, rfl⟩ := Option.map_eq_some_iff.1 hs
      rw [hx]
      rfl)
    rw [add_plain] at h1
    rwa [Nat.zero_add]
/-- what Feed tells, and what a Framer is behind it: the pieces, what is kept, how many came, what it is broken with -/
def feedSt (l : List UInt8) (a c : Int) (s : ByteArray) : List (List UInt8) × List UInt8 × Int × Int :=
  if c ≠ 0 then ([], l, a, c) else
  ((fed l s).1, if codeOf (fed l s).2.2.2 ≠ 0 then [] else (fed l s).2.1, a + (fed l s).2.2.1, codeOf (fed l s).2.2.2)
/-- lists of bytes as texts -/
def txt (l : List (List UInt8)) : List ByteArray := l.map fun x => ⟨x.toArray⟩
theorem feed {w : World} {av : Nat → Prop} {f : Nat} {l : List UInt8} {a c : Int} {p : Nat → Addr} (h : FS w av f l a c p) (hG : Globs w p) (s : ByteArray) (hs : l.length + s.size ≤ 100000000) (ha : 0 ≤ a) (ha2 : a ≤ 100000000) (hgf : GFree p f) (hn : ∀ k, w.heap.size ≤ k → av k) :
    Calls Tryd.prog 10 #[.pointer (some ⟨f, 0, none⟩), .string s] w fun e w' => ∃ v, e = .returned (.tuple #[v, .int .i64 (feedSt l a c s).2.2.2]) ∧
      RS w' (fun b => w.heap.size ≤ b ∧ b < w'.heap.size) v (txt (feedSt l a c s).1) ∧ w.grownBy w' (some f) ∧ FS w' av f (feedSt l a c s).2.1 (feedSt l a c s).2.2.1 (feedSt l a c s).2.2.2 p := by
  unfold feedSt
  by_cases hc : c = 0
  · subst hc
    rw [if_neg (by simp)]
    refine (feed_goes h hG s hs ha ha2 hgf hn).mono ?_
    rintro e w' ⟨v, rfl, ho, hg, hf⟩
    exact ⟨v, rfl, rs_of_own ho, hg, hf⟩
  · rw [if_pos hc]
    refine (feed_broken h hG s hc).mono ?_
    rintro e w' ⟨rfl, hb⟩
    exact ⟨_, rfl, ⟨none, 0, rfl, fun h => absurd rfl h⟩, grown_of_below hb _, h.below hb⟩
theorem rs_lit (w : World) (s : ByteArray) : RS (w.alloc (.cells #[.string s] 9)) (fun _ => True) (.slice (some ⟨w.heap.size, 0, none⟩) 1 1) [s] := by
  refine ⟨some ⟨w.heap.size, 0, none⟩, 1, rfl, fun _ => ⟨w.heap.size, 0, rfl, trivial, fun j t ht => ?_⟩⟩
  rw [Nat.zero_add]
  refine cell_new _ _ _ _ j ?_
  rcases j with _ | j
  · simpa using ht
  · simp at ht
theorem s1 : feedSt [] 0 0 ⟨#[48, 5, 2, 1]⟩ = ([], [48, 5, 2, 1], 0, 0) := by decide +kernel
theorem s2 : feedSt [48, 5, 2, 1] 0 0 ⟨#[1, 66, 0, 48]⟩ = ([[48, 5, 2, 1, 1, 66, 0]], [48], 7, 0) := by decide +kernel
theorem s3 : feedSt [48] 7 0 ⟨#[128]⟩ = ([], [], 7, 11) := by decide +kernel
theorem s4 : feedSt [] 7 11 ⟨#[48, 0]⟩ = ([], [], 7, 11) := by decide +kernel
set_option maxRecDepth 100000 in
set_option maxHeartbeats 4000000 in
theorem shown (w : World) (p : Nat → Addr) (hG : Globs w p) :
    Calls Tryd.prog 7 #[] w fun e w' => e = .returned (.bool true) ∧ Below w.heap.size w w' := by
  go_enter Tryd.func7, Tryd.ntmps7
  go_wp2_with fail
  refine (new w p (fun _ => True)).mono ?_
  rintro e w1 ⟨rfl, hb1, hF1, hlt1⟩
  have hG1 := hG.below hb1
  have hgf := hG.free (Nat.le_refl w.heap.size)
  have B1 := Aside.mk hb1
  have G1 := Aside.mk hG1
  have F1 := Aside.mk hF1
  clear hb1 hG1 hF1 hG
  go_wp2_with fail
  refine (feed F1.out G1.out ⟨#[48, 5, 2, 1]⟩ (by decide) (by decide) (by decide) hgf (fun _ _ => trivial)).mono ?_
  rw [s1]
  rintro e w2 ⟨v2, rfl, hr2, hg2, hF2⟩
  obtain ⟨A2, cp2, rfl⟩ := hr2.len
  have G2 := Aside.mk (G1.out.grown hgf hg2)
  have B2 := Aside.mk (below_grown B1.out hg2 (Nat.le_refl _))
  have F2 := Aside.mk hF2
  have z2 : w.heap.size < w2.heap.size := Nat.lt_of_lt_of_le hlt1 hg2.size
  clear hr2 hg2 hF2
  go_wp2_with fail
  refine (feed F2.out G2.out ⟨#[1, 66, 0, 48]⟩ (by decide) (by decide) (by decide) hgf (fun _ _ => trivial)).mono ?_
  rw [s2]
  rintro e w3 ⟨v3, rfl, hr3, hg3, hF3⟩
  have G3 := Aside.mk (G2.out.grown hgf hg3)
  have B3 := Aside.mk (below_grown B2.out hg3 (Nat.le_refl _))
  have F3 := Aside.mk hF3
  have R3 := Aside.mk (hr3.mono (av' := fun b => b ≠ w.heap.size) (fun b hb => by omega))
  have z3 : w.heap.size < w3.heap.size := Nat.lt_of_lt_of_le z2 hg3.size
  clear hr3 hg3 hF3
  go_wp2_with fail
  refine ((show stateOf [48] 0 = 1 by decide) ▸ state F3.out G3.out).mono ?_
  rintro e w4 ⟨rfl, hb⟩
  have G4 := Aside.mk (G3.out.below hb)
  have B4 := Aside.mk (below_then B3.out hb)
  have F4 := Aside.mk (F3.out.below hb)
  have R4 := Aside.mk (R3.out.below hb)
  clear hb
  go_wp2_with fail
  refine (kept F4.out).mono ?_
  rintro e w5 ⟨rfl, hb⟩
  have G5 := Aside.mk (G4.out.below hb)
  have B5 := Aside.mk (below_then B4.out hb)
  have F5 := Aside.mk (F4.out.below hb)
  have R5 := Aside.mk (R4.out.below hb)
  clear hb
  go_wp2_with fail
  refine (feed F5.out G5.out ⟨#[128]⟩ (by decide) (by decide) (by decide) hgf (fun _ _ => trivial)).mono ?_
  rw [s3]
  rintro e w6 ⟨v6, rfl, hr, hg, hF⟩
  obtain ⟨A6, cp6, rfl⟩ := hr.len
  have G6 := Aside.mk (G5.out.grown hgf hg)
  have B6 := Aside.mk (below_grown B5.out hg (Nat.le_refl _))
  have F6 := Aside.mk hF
  have R6 := Aside.mk (R5.out.grown hg (fun b hb => by simpa using hb))
  clear hr hg hF
  go_wp2_with fail
  refine (feed F6.out G6.out ⟨#[48, 0]⟩ (by decide) (by decide) (by decide) hgf (fun _ _ => trivial)).mono ?_
  rw [s4]
  rintro e w7 ⟨v7, rfl, hr, hg, hF⟩
  obtain ⟨A7, cp7, rfl⟩ := hr.len
  have G7 := Aside.mk (G6.out.grown hgf hg)
  have B7 := Aside.mk (below_grown B6.out hg (Nat.le_refl _))
  have F7 := Aside.mk hF
  have R7 := Aside.mk (R6.out.grown hg (fun b hb => by simpa using hb))
  clear hr hg hF
  have q1 : (txt []).length = 0 := rfl
  go_wp2_with fail
  have nb := below_new w7 (.cells #[.string ⟨#[48, 5, 2, 1, 1, 66, 0]⟩] 9)
  have hlit : RS (w7.alloc (.cells #[.string ⟨#[48, 5, 2, 1, 1, 66, 0]⟩] 9)) (fun _ => True) (.slice (some ⟨w7.heap.size, 0, none⟩) 1 1) [⟨#[48, 5, 2, 1, 1, 66, 0]⟩] := rs_lit w7 _
  refine (texts (R7.out.below nb) hlit (by decide)).mono ?_
  rw [show decide (txt [[48, 5, 2, 1, 1, 66, 0]] = [⟨#[48, 5, 2, 1, 1, 66, 0]⟩]) = true by decide]
  rintro e w8 ⟨rfl, hb⟩
  have hb8 := below_then nb hb
  have G8 := Aside.mk (G7.out.below hb8)
  have B8 := Aside.mk (below_then B7.out hb8)
  have F8 := Aside.mk (F7.out.below hb8)
  clear hb hb8 nb hlit
  go_wp2_with fail
  refine ((show stateOf [] 11 = 2 by decide) ▸ state F8.out G8.out).mono ?_
  rintro e w9 ⟨rfl, hb⟩
  have G9 := Aside.mk (G8.out.below hb)
  have B9 := Aside.mk (below_then B8.out hb)
  have F9 := Aside.mk (F8.out.below hb)
  clear hb
  go_wp2_with fail
  refine (kept F9.out).mono ?_
  rintro e w10 ⟨rfl, hb⟩
  have G10 := Aside.mk (G9.out.below hb)
  have B10 := Aside.mk (below_then B9.out hb)
  have F10 := Aside.mk (F9.out.below hb)
  clear hb
  go_wp2_with fail
  refine (offset F10.out).mono ?_
  rintro e w11 ⟨rfl, hb⟩
  have G11 := Aside.mk (G10.out.below hb)
  have B11 := Aside.mk (below_then B10.out hb)
  have F11 := Aside.mk (F10.out.below hb)
  clear hb
  go_wp2_with fail
  refine (error F11.out G11.out).mono ?_
  rintro e w12 ⟨rfl, hb⟩
  have G12 := Aside.mk (G11.out.below hb)
  have B12 := Aside.mk (below_then B11.out hb)
  have F12 := Aside.mk (F11.out.below hb)
  clear hb
  go_wp2
  go_ret
  exact ⟨rfl, B12.out⟩
end Go.Proofs.YtglmnglaliljdaaDoor.Frame
