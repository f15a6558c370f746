/- size.Encode: the least bytes of a length, or none. Conditions: the package's variables hold their sentinels. -/
import Derived.Test.YtglmnglaliljdaaDoorEncD
namespace Go.Proofs.YtglmnglaliljdaaDoor.Size
open Go.RowKit
set_option linter.unusedVariables false
/-- a length's least bytes -/
def encL (n : Int) : List UInt8 := if n < 128 then [UInt8.ofNat n.toNat] else UInt8.ofNat (128 + (partsOf 4 n.toNat).length) :: (partsOf 4 n.toNat).reverse
theorem encoded_ok (n : Int) (w : World) (p : Nat → Addr) (hG : Globs w p) (h0 : 0 ≤ n) (h1 : n ≤ 16777215) :
    Calls Tryd.prog 25 #[.int .i64 n] w fun e w' => e = .returned (.tuple #[.string ⟨(encL n).toArray⟩, .nilIface]) ∧ Below w.heap.size w w' := by
  unfold encL
  by_cases h : n < 128
  · rw [if_pos h]
    exact encoded_small n w p hG h0 h
  · rw [if_neg h]
    have h2 := encoded_long n.toNat w p hG (by omega) (by omega)
    rw [Int.toNat_of_nonneg h0] at h2
    exact h2
theorem encoded_bad (n : Int) (w : World) (p : Nat → Addr) (hG : Globs w p) (h : n < 0 ∨ 16777215 < n) :
    Calls Tryd.prog 25 #[.int .i64 n] w fun e w' => e = .returned (.tuple #[.string ⟨#[]⟩, .iface 78 (.agg #[.int .i64 n, .iface 120 (.pointer (some (p 4)))])]) ∧ Below w.heap.size w w' := by
  rcases h with h | h
  · exact encoded_neg n w p hG h
  · exact encoded_great n w p hG h
set_option maxRecDepth 100000 in
theorem encode_ok (n : Int) (w : World) (p : Nat → Addr) (hG : Globs w p) (h0 : 0 ≤ n) (h1 : n ≤ 16777215) :
    Calls Tryd.prog 19 #[.int .i64 n] w fun e w' => e = .returned (.tuple #[.string ⟨(encL n).toArray⟩, .int .i64 0]) ∧ Below w.heap.size w w' := by
  have HE := Aside.mk (encoded_ok n w p hG h0 h1)
  have HG := Aside.mk hG
  clear hG h0 h1
  go_enter Tryd.func19, Tryd.ntmps19
  go_wp2_with fail
  refine HE.out.mono ?_
  rintro e w1 ⟨rfl, hb⟩
  have H1 := Aside.mk hb
  clear hb HE
  go_wp2_with fail
  refine (ToldSize.told_nil w1).mono ?_
  rintro e w2 ⟨rfl, hb⟩
  have H2 := Aside.mk (below_then H1.out hb)
  clear hb
  go_wp2
  go_ret2
  exact ⟨rfl, H2.out⟩
set_option maxRecDepth 100000 in
theorem encode_bad (n : Int) (w : World) (p : Nat → Addr) (hG : Globs w p) (h : n < 0 ∨ 16777215 < n) :
    Calls Tryd.prog 19 #[.int .i64 n] w fun e w' => e = .returned (.tuple #[.string ⟨#[]⟩, .int .i64 12]) ∧ Below w.heap.size w w' := by
  have HE := Aside.mk (encoded_bad n w p hG h)
  have HG := Aside.mk hG
  clear hG h
  go_enter Tryd.func19, Tryd.ntmps19
  go_wp2_with fail
  refine HE.out.mono ?_
  rintro e w1 ⟨rfl, hb⟩
  have H1 := Aside.mk hb
  have HG1 := Aside.mk (HG.out.below hb)
  clear hb HE
  go_wp2_with fail
  refine (ToldSize.told_errSize n w1 p HG1.out).mono ?_
  rintro e w2 ⟨rfl, hb⟩
  have H2 := Aside.mk (below_then H1.out hb)
  clear hb
  go_wp2
  go_ret2
  exact ⟨rfl, H2.out⟩
end Go.Proofs.YtglmnglaliljdaaDoor.Size
