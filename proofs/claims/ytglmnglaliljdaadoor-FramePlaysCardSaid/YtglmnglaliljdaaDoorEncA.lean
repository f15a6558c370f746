/- size.encoded's inner function: a byte ahead of some. Conditions: the shape of memory that each theorem names. -/
import Derived.Test.YtglmnglaliljdaaDoorSizeE
import Derived.Laws.AppendOwnNone
import Derived.RangeFuncBox
namespace Go.Proofs.YtglmnglaliljdaaDoor.Size
open Go.RowKit
set_option linter.unusedVariables false
/-- bytes as values -/
def u8l (l : List UInt8) : List Value := l.map fun u => .int .u8 u.toNat
theorem u8l_length (l : List UInt8) : (u8l l).length = l.length := by simp [u8l]
theorem u8l_get (l : List UInt8) (j : Nat) : (u8l l)[j]? = (l[j]?).map fun u => .int .u8 u.toNat := by simp [u8l]
theorem u8l_one (l : List UInt8) : ∀ v ∈ u8l l, v.oneCell' = true := by
  intro v hv
  obtain ⟨u, _, rfl⟩ := List.mem_map.1 hv
  rfl
/-- a slice that reads as some bytes, in a block that G lets by -/
def BS (w : World) (G : Nat → Prop) (v : Value) (l : List UInt8) : Prop :=
  (l = [] ∧ v = .slice none 0 0) ∨ ∃ g c, G g ∧ v = .slice (some ⟨g, 0, none⟩) l.length c ∧ ∀ j u, l[j]? = some u → w.cell? ⟨g, j, none⟩ = some (.int .u8 u.toNat)
theorem BS.grown {w w' : World} {G : Nat → Prop} {v : Value} {l : List UInt8} (h : BS w G v l) {row : Option Nat} (hg : w.grownBy w' row) (hr : ∀ b, G b → some b ≠ row) : BS w' G v l := by
  rcases h with h | ⟨g, c, hG, rfl, hc⟩
  · exact .inl h
  · exact .inr ⟨g, c, hG, rfl, fun j u hu => cell_grown (hc j u hu) hg (hr g hG)⟩
theorem BS.mono {w : World} {G G' : Nat → Prop} {v : Value} {l : List UInt8} (h : BS w G v l) (hi : ∀ b, G b → G' b) : BS w G' v l := by
  rcases h with h | ⟨g, c, hG, rfl, hc⟩
  · exact .inl h
  · exact .inr ⟨g, c, hi g hG, rfl, hc⟩
theorem BS.shape {w : World} {G : Nat → Prop} {v : Value} {l : List UInt8} (h : BS w G v l) : ∃ A c, v = .slice A l.length c := by
  rcases h with ⟨rfl, rfl⟩ | ⟨g, c, _, rfl, hc⟩
  · exact ⟨none, 0, rfl⟩
  · exact ⟨_, _, rfl⟩
theorem own_one (w : World) (u : UInt8) : (w.alloc (.cells #[.int .u8 u.toNat] 5)).ownsRow w.heap.size 5 1 (.slice (some ⟨w.heap.size, 0, none⟩) 1 1) 1 (u8l [u]) :=
  ⟨rfl, .inr ⟨w.heap.size, 1, #[.int .u8 u.toNat], rfl, Nat.le_refl _, World.alloc_heap_new _ _, Nat.le_refl _, by unfold maxLen; omega, rfl, rfl⟩⟩
theorem BS.of_own {w : World} {base n : Nat} {v : Value} {l : List UInt8} (h : w.ownsRow base 5 1 v n (u8l l)) : BS w (fun b => base ≤ b) v l := by
  have hn : n = l.length := by have := h.1; rw [u8l_length] at this; omega
  subst hn
  rcases h.2 with ⟨rfl, h0⟩ | ⟨g, cap, cur, rfl, hb, _⟩
  · exact .inl ⟨List.eq_nil_of_length_eq_zero h0, rfl⟩
  · refine .inr ⟨g, cap, hb, rfl, fun j u hu => ?_⟩
    have h1 := h.cells (g := g) rfl j (.int .u8 u.toNat) (by rw [u8l_get, hu]; rfl)
    rwa [show (⟨g, 0, none⟩ : Addr).add j = ⟨g, j, none⟩ by unfold Addr.add; split <;> simp_all] at h1
set_option maxRecDepth 100000 in
theorem lay_first (u : UInt8) (O : Nat) (w : World) (hO : w.heap[O]? = some (.cells #[.slice none 0 0] 45 (0, 0))) :
    Calls Tryd.prog 33 #[.int .u8 u.toNat, .pointer (some ⟨O, 0, none⟩)] w fun e w' => (∃ x, e = .returned x) ∧ w.grownBy w' (some O) ∧ ∃ v', w'.heap[O]? = some (.cells #[v'] 45 (0, 0)) ∧ BS w' (fun b => w.heap.size ≤ b) v' [u] := by
  have hlt : O < w.heap.size := (Array.getElem?_eq_some_iff.1 hO).1
  have hn := below_new w (.cells #[.int .u8 u.toNat] 5)
  have hO1 := blk_below hO hn
  have c1 : (w.alloc (.cells #[.int .u8 u.toNat] 5)).cell? ⟨O, 0, none⟩ = some (.slice none 0 0) := cel hO1 0 rfl
  have f1 := frz hO1 0
  have HR := Aside.mk (own_one w u)
  have HO1 := Aside.mk hO1
  have HN := Aside.mk hn
  obtain ⟨i0, hi, hz⟩ := Option.map_eq_some_iff.1 (show (Tryd.prog.info? 5).map (fun i => (i.zero, i.size, i.bytes)) = some (some (.int .u8 0), 1, 1) by kernel_rfl)
  clear hO hO1 hn hz
  go_enter Tryd.func33, Tryd.ntmps33
  go_wp2_with (refine wpList_append_own_none rfl (.tmp 4) (.tmp 5) 45 rfl w.heap.size 5 i0 1 Tryd.underlying45 hi _ 1 (u8l [u]) rfl HR.out rfl ?_; generalize w.alloc (.cells #[.int .u8 u.toNat] 5) = W1 at HR HO1 HN c1 f1 ⊢)
  go_end0
  have hs := set_grown W1 O 0 (.slice (some ⟨w.heap.size, 0, none⟩) 1 1)
  refine ⟨⟨_, rfl⟩, grown_trans (grown_of_below HN.out _) hs, _, set_blk HO1.out 0 _, ?_⟩
  exact BS.of_own (HR.out.kept hs (.inr (by simp [Value.ownBlock]; omega)))
set_option maxRecDepth 100000 in
theorem lay_more (u : UInt8) (O : Nat) (w : World) (g c : Nat) (l : List UInt8) (hl : l.length ≤ 1000) (hO : w.heap[O]? = some (.cells #[.slice (some ⟨g, 0, none⟩) l.length c] 45 (0, 0)))
    (hc : ∀ j u, l[j]? = some u → w.cell? ⟨g, j, none⟩ = some (.int .u8 u.toNat)) :
    Calls Tryd.prog 33 #[.int .u8 u.toNat, .pointer (some ⟨O, 0, none⟩)] w fun e w' => (∃ x, e = .returned x) ∧ w.grownBy w' (some O) ∧ ∃ v', w'.heap[O]? = some (.cells #[v'] 45 (0, 0)) ∧ BS w' (fun b => w.heap.size ≤ b) v' (u :: l) := by
  have hlt : O < w.heap.size := (Array.getElem?_eq_some_iff.1 hO).1
  have hn := below_new w (.cells #[.int .u8 u.toNat] 5)
  have hO1 := blk_below hO hn
  have c1 : (w.alloc (.cells #[.int .u8 u.toNat] 5)).cell? ⟨O, 0, none⟩ = some (.slice (some ⟨g, 0, none⟩) l.length c) := cel hO1 0 rfl
  have f1 := frz hO1 0
  have HR := Aside.mk (own_one w u)
  have HO1 := Aside.mk hO1
  have HN := Aside.mk hn
  have HL := Aside.mk hl
  have HC := Aside.mk (show ∀ j v, (u8l l)[j]? = some v → (w.alloc (.cells #[.int .u8 u.toNat] 5)).cell? ((⟨g, 0, none⟩ : Addr).add j) = some v from fun j v hv => by
    rw [u8l_get] at hv
    obtain ⟨x, hx, rfl⟩ := Option.map_eq_some_iff.1 hv
    rw [show (⟨g, 0, none⟩ : Addr).add j = ⟨g, j, none⟩ by unfold Addr.add; split <;> simp_all]
    exact cell_below (hc j x hx) hn)
  obtain ⟨i0, hi, hz⟩ := Option.map_eq_some_iff.1 (show (Tryd.prog.info? 5).map (fun i => (i.zero, i.size, i.bytes)) = some (some (.int .u8 0), 1, 1) by kernel_rfl)
  simp only [Prod.mk.injEq] at hz
  obtain ⟨hz0, hz1, hz2⟩ := hz
  clear hO hO1 hn hc
  go_enter Tryd.func33, Tryd.ntmps33
  go_wp2_with (refine wpList_append_own _ rfl (.tmp 4) (.tmp 5) 45 rfl w.heap.size 5 i0 (.int .u8 0) 1 1 Tryd.underlying45 hi hz0 hz1 hz2 rfl (by decide) _ 1 (u8l [u]) rfl HR.out ⟨g, 0, none⟩ l.length c (u8l l) rfl (by rw [u8l_length, Nat.mul_one]) HC.out (u8l_one l) ?_ ?_ ?_ ?_)
  · unfold maxLen; omega
  · omega
  · simp
  intro v' w1 hown hgrow _
  rw [Nat.add_comm] at hown
  obtain ⟨g', cap', rfl⟩ := ownsRow_succ hown
  have hneO : O ≠ w.heap.size := by omega
  have hb1 := blk_grown HO1.out hgrow (by simpa [Value.ownBlock] using hneO)
  have c2 : w1.cell? ⟨O, 0, none⟩ = some (.slice (some ⟨g, 0, none⟩) l.length c) := cel hb1 0 rfl
  have f2 := frz hb1 0
  have HW := Aside.mk hown
  have HB1 := Aside.mk hb1
  have HGR := Aside.mk hgrow
  clear hown hb1 hgrow c1 f1 hi hz0 hz1 hz2
  go_wp2
  go_end0
  have hs := set_grown w1 O 0 (.slice (some ⟨g', 0, none⟩) (l.length + 1) cap')
  have hgo := (HW.out.lt g' rfl).1
  have h1 : w.grownBy w1 (some O) := ⟨HGR.out.os, HGR.out.tape, HGR.out.output, Nat.le_trans HN.out.size HGR.out.size, fun k hk hr => (HGR.out.block k (Nat.lt_of_lt_of_le hk HN.out.size) (by simp [Value.ownBlock]; omega)).trans (HN.out.block k hk)⟩
  refine ⟨⟨_, rfl⟩, grown_trans h1 hs, _, set_blk HB1.out 0 _, ?_⟩
  exact BS.of_own (l := u :: l) (HW.out.kept hs (.inr (by simp [Value.ownBlock]; omega)))
theorem lay (u : UInt8) (O : Nat) (w : World) (v : Value) (l : List UInt8) (hl : l.length ≤ 1000) (hO : w.heap[O]? = some (.cells #[v] 45 (0, 0))) {G : Nat → Prop} (hv : BS w G v l) :
    Calls Tryd.prog 33 #[.int .u8 u.toNat, .pointer (some ⟨O, 0, none⟩)] w fun e w' => (∃ x, e = .returned x) ∧ w.grownBy w' (some O) ∧ ∃ v', w'.heap[O]? = some (.cells #[v'] 45 (0, 0)) ∧ BS w' (fun b => w.heap.size ≤ b) v' (u :: l) := by
  rcases hv with ⟨rfl, rfl⟩ | ⟨g, c, _, rfl, hc⟩
  · exact lay_first u O w hO
  · exact lay_more u O w g c l hl hO hc
end Go.Proofs.YtglmnglaliljdaaDoor.Size
