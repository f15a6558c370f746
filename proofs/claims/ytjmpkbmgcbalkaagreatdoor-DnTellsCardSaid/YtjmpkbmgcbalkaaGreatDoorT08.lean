/- The walk without memory: steps with numbers. Whatever program. -/
import Derived.Test.YtjmpkbmgcbalkaaGreatDoorT07
namespace Go.Proofs.YtjmpkbmgcbalkaaGreatDoor
open Go.RowKit
theorem ofNat_wrap (n : Nat) : UInt8.ofNat (IntKind.u8.wrap (n : Int)).toNat = UInt8.ofNat n := by
  have : (IntKind.u8.wrap (n : Int)).toNat = n % 256 := by
    simp [IntKind.wrap, IntKind.signed, IntKind.bits]
    omega
  rw [this, ← UInt8.toNat_inj, UInt8.toNat_ofNat', UInt8.toNat_ofNat']
  omega
theorem st_div (a b : Nat) (hb : b ≠ 0) (ha : a ≤ 1000000000000000) {K : Int → Prop} (h : K ((a / b : Nat) : Int)) : IntKind.i64 = IntKind.i64 ∧ (b : Int) ≠ 0 ∧ ∃ n, IntKind.i64.wrap ((a : Int).tdiv (b : Int)) = n ∧ K n := by
  refine ⟨rfl, by omega, _, rfl, ?_⟩
  have e : (a : Int).tdiv (b : Int) = ((a / b : Nat) : Int) := by rw [Int.tdiv_eq_ediv_of_nonneg (by omega)]; rfl
  have := Nat.div_le_self a b
  rw [e]
  generalize a / b = d at *
  rw [wrap64 (by omega) (by omega)]; exact h
theorem st_mod (a b : Nat) (hb : b ≠ 0) {K : Int → Prop} (h : K ((a % b : Nat) : Int)) : IntKind.i64 = IntKind.i64 ∧ (b : Int) ≠ 0 ∧ ∃ n, (a : Int).tmod (b : Int) = n ∧ K n := by
  refine ⟨rfl, by omega, _, rfl, ?_⟩
  have e : (a : Int).tmod (b : Int) = ((a % b : Nat) : Int) := by rw [Int.tmod_eq_emod_of_nonneg (by omega)]; rfl
  rw [e]; exact h
theorem st_add (a b : Nat) (ha : a + b ≤ 1000000000000000) {K : Int → Prop} (h : K ((a + b : Nat) : Int)) : IntKind.i64 = IntKind.i64 ∧ ∃ n, IntKind.i64.wrap ((a : Int) + (b : Int)) = n ∧ K n :=
  ⟨rfl, _, wrap64 (by omega) (by omega), by rw [show ((a : Int) + (b : Int)) = ((a + b : Nat) : Int) by omega]; exact h⟩
theorem st_minus (a b : Nat) (hab : b ≤ a) (ha : a ≤ 1000000000000000) {K : Int → Prop} (h : K ((a - b : Nat) : Int)) : IntKind.i64 = IntKind.i64 ∧ ∃ n, IntKind.i64.wrap ((a : Int) - (b : Int)) = n ∧ K n :=
  ⟨rfl, _, wrap64 (by omega) (by omega), by rw [show ((a : Int) - (b : Int)) = ((a - b : Nat) : Int) by omega]; exact h⟩
theorem st_times (a b : Nat) (ha : a * b ≤ 1000000000000000) {K : Int → Prop} (h : K ((a * b : Nat) : Int)) : IntKind.i64 = IntKind.i64 ∧ ∃ n, IntKind.i64.wrap ((a : Int) * (b : Int)) = n ∧ K n :=
  ⟨rfl, _, wrap64 (by rw [← Int.natCast_mul]; omega) (by rw [← Int.natCast_mul]; omega), by rw [← Int.natCast_mul]; exact h⟩
/-- a byte as a number -/
theorem st_int (c : UInt8) {K : Int → Prop} (h : K ((c.toNat : Nat) : Int)) : ∃ n, IntKind.i64.wrap ((c.toNat : Nat) : Int) = n ∧ K n := by
  have := c.toNat_lt
  exact ⟨_, wrap64 (by omega) (by omega), h⟩
/-- a byte of a text, at a place -/
theorem st_getD {s : ByteArray} {i : Nat} {K : UInt8 → Prop} (h : i < s.size) (hK : K (s.data.toList.getD i 0)) : ∃ c : UInt8, (0 : Int) ≤ (i : Nat) ∧ s.data.toList[((i : Nat) : Int).toNat]? = some c ∧ K c := by
  have h' : i < s.data.toList.length := by simpa using h
  refine ⟨s.data.toList.getD i 0, by omega, ?_, hK⟩
  rw [Int.toNat_natCast, List.getD_eq_getElem?_getD, List.getElem?_eq_getElem h']
  rfl
/-- a test, as a truth that has a name -/
theorem cmp_iff {p : Prop} {A : Bool} (e : p ↔ A = true) {K : Bool → Prop} (h1 : A = true → K true) (h2 : A = false → K false) : ∀ q : Bool, (q = true ↔ p) → K q := fun q hq => by
  cases hA : A
  · have : q = false := by
      cases q
      · rfl
      · have := e.1 (hq.1 rfl); rw [hA] at this; cases this
    rw [this]; exact h2 hA
  · rw [show q = true from hq.2 (e.2 hA)]; exact h1 hA
theorem st_byteE {s : ByteArray} {i : Nat} {b : UInt8} (h : i < s.size) (hb : b = s[i]) {K : UInt8 → Prop} (hK : K b) : ∃ c : UInt8, (0 : Int) ≤ (i : Nat) ∧ s.data.toList[((i : Nat) : Int).toNat]? = some c ∧ K c := st_byte h (hb ▸ hK)
/-- a call that answers a truth -/
theorem st_callB {f : FuncId} {P : Program} {X : En} {bs args : List T} {b : Bool} {K : T → Prop} (h : Fn P X f args (.v (.bool b))) (hl : LeTs bs args) (h1 : T.pures args = true) (ht : b = true → K (.v (.bool true))) (hf : b = false → K (.v (.bool false))) : ∃ (args : List T) (r : T), Fn P X f args r ∧ LeTs bs args ∧ T.pures args = true ∧ r.pure = true ∧ K r :=
  ⟨args, _, h, hl, h1, rfl, by cases b; exact hf rfl; exact ht rfl⟩
end Go.Proofs.YtjmpkbmgcbalkaaGreatDoor
