/- size.Encode: what is refused, and the shortest lengths. Conditions: the package's variables hold their sentinels. -/
import Derived.Test.YtglmnglaliljdaaDoorEncB
import Derived.Test.YtglmnglaliljdaaDoorToldSize
namespace Go.Proofs.YtglmnglaliljdaaDoor.Size
open Go.RowKit
set_option linter.unusedVariables false
set_option maxRecDepth 100000 in
set_option maxHeartbeats 1000000 in
theorem encoded_neg (n : Int) (w : World) (p : Nat → Addr) (hG : Globs w p) (hn : n < 0) :
    Calls Tryd.prog 25 #[.int .i64 n] w fun e w' => e = .returned (.tuple #[.string ⟨#[]⟩, .iface 78 (.agg #[.int .i64 n, .iface 120 (.pointer (some (p 4)))])]) ∧ Below w.heap.size w w' := by
  have k0 := hG.cell 4 (by decide)
  have q0 : decide (n < 0) = true := by simpa using hn
  clear hG
  go_enter Tryd.func25, Tryd.ntmps25
  go_wp2_with fail
  refine (first_yes n 120 (.pointer (some (p 4))) _ _ ?_ ?_).mono ?_
  · exact cell_new _ _ _ _ 0 rfl
  · exact cell_new _ _ _ _ 1 rfl
  rintro e w2 ⟨rfl, hb⟩
  have H2 := Aside.mk (below_then (below_new _ _) hb)
  clear hb
  clear k0
  go_wp2
  go_ret2
  exact ⟨rfl, H2.out⟩
set_option maxRecDepth 100000 in
set_option maxHeartbeats 1000000 in
theorem encoded_great (n : Int) (w : World) (p : Nat → Addr) (hG : Globs w p) (hn : 16777215 < n) :
    Calls Tryd.prog 25 #[.int .i64 n] w fun e w' => e = .returned (.tuple #[.string ⟨#[]⟩, .iface 78 (.agg #[.int .i64 n, .iface 120 (.pointer (some (p 4)))])]) ∧ Below w.heap.size w w' := by
  have k0 := hG.cell 4 (by decide)
  have q0 : decide (n < 0) = false := by simp; omega
  have q1 : decide (16777215 < n) = true := by simpa using hn
  clear hG
  go_enter Tryd.func25, Tryd.ntmps25
  go_wp2_with fail
  refine (first_yes n 120 (.pointer (some (p 4))) _ _ ?_ ?_).mono ?_
  · exact cell_new _ _ _ _ 0 rfl
  · exact cell_new _ _ _ _ 1 rfl
  rintro e w2 ⟨rfl, hb⟩
  have H2 := Aside.mk (below_then (below_new _ _) hb)
  clear hb
  clear k0
  go_wp2
  go_ret2
  exact ⟨rfl, H2.out⟩
theorem bs_strOf (l : List UInt8) : strOfNums (l.map fun x => (x.toNat : Int)) = ⟨l.toArray⟩ := by
  unfold strOfNums
  have h : (l.map fun x => (x.toNat : Int)).map (fun n => UInt8.ofNat n.toNat) = l := by
    rw [List.map_map]
    conv => rhs; rw [← List.map_id l]
    apply List.map_congr_left
    intro x _
    show UInt8.ofNat ((x.toNat : Int)).toNat = x
    rw [Int.toNat_natCast, UInt8.ofNat_toNat]
  rw [h]
theorem BS.str {w : World} {G : Nat → Prop} {v : Value} {l : List UInt8} (h : BS w G v l) :
    (convert 45 9 v).run Tryd.prog w = .ok (.string ⟨l.toArray⟩) w := by
  rcases h with ⟨rfl, rfl⟩ | ⟨g, c, _, rfl, hc⟩
  · exact run_convert_bytes_nil w 45 5 Tryd.underlying45 Tryd.underlying5 0 0 9 Tryd.underlying9
  · by_cases hl : l = []
    · subst hl
      rw [run_convert_bytes_string w 45 9 5 _ _ _ Tryd.underlying45 Tryd.underlying5 Tryd.underlying9]
      rfl
    · rw [← bs_strOf]
      refine run_convert_bytes_arg w 45 5 Tryd.underlying45 Tryd.underlying5 g 0 l.length c _ (by simp) (fun i hi => ?_) 9 Tryd.underlying9
      rw [Nat.zero_add, hc i l[i] (List.getElem?_eq_getElem hi)]
      simp [List.getD_eq_getElem?_getD, List.getElem?_eq_getElem hi]
set_option maxRecDepth 100000 in
set_option maxHeartbeats 1000000 in
theorem encoded_small (n : Int) (w : World) (p : Nat → Addr) (hG : Globs w p) (h0 : 0 ≤ n) (h1 : n < 128) :
    Calls Tryd.prog 25 #[.int .i64 n] w fun e w' => e = .returned (.tuple #[.string ⟨#[UInt8.ofNat n.toNat]⟩, .nilIface]) ∧ Below w.heap.size w w' := by
  have k0 := hG.cell 4 (by decide)
  have q0 : decide (n < 0) = false := by simp; omega
  have q1 : decide (16777215 < n) = false := by simp; omega
  have q2 : decide (n < 128) = true := by simpa using h1
  have hx : ((UInt8.ofNat n.toNat).toNat : Int) = n := by rw [UInt8.toNat_ofNat']; omega
  have HX := Aside.mk hx
  clear hG hx
  go_enter Tryd.func25, Tryd.ntmps25
  go_wp2_with fail
  refine (first_no n 120 (.pointer (some (p 4))) _ _ ?_ ?_).mono ?_
  · exact cell_new _ _ _ _ 0 rfl
  · exact cell_new _ _ _ _ 1 rfl
  rintro e w2 ⟨rfl, hb⟩
  have H2 := Aside.mk (below_then (below_new _ _) hb)
  have hs : (convert 45 9 (.slice (some ⟨w2.heap.size, 0, none⟩) 1 1)).run Tryd.prog (w2.alloc (.cells #[.int .u8 n] 5)) = .ok (.string ⟨#[UInt8.ofNat n.toNat]⟩) (w2.alloc (.cells #[.int .u8 n] 5)) :=
    BS.str (G := fun _ => True) (l := [UInt8.ofNat n.toNat]) (.inr ⟨_, 1, trivial, rfl, fun j u hu => by
      rcases j with _ | j
      · obtain rfl : UInt8.ofNat n.toNat = u := by simpa using hu
        rw [HX.out]
        exact cell_new _ _ _ _ 0 rfl
      · simp at hu⟩)
  clear hb
  clear k0
  go_wp2
  go_ret2
  exact ⟨rfl, below_then H2.out (below_new _ _)⟩
end Go.Proofs.YtglmnglaliljdaaDoor.Size
