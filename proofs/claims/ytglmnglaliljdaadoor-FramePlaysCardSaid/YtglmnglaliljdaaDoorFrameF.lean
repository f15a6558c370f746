/- frame.(*buffer).long, in one; what Feed tells. Conditions: the shape of memory that each theorem names. -/
import Derived.Test.YtglmnglaliljdaaDoorFrameE
namespace Go.Proofs.YtglmnglaliljdaaDoor.Frame
open Go.RowKit Size
set_option linter.unusedVariables false
theorem hdr_size (l : List UInt8) : (hdr l).size = min 6 l.length := by simp [hdr, ByteArray.size]
theorem hdr_bt (u : UInt8) (r : List UInt8) : bt (hdr (u :: r)) 0 = u.toNat := by
  have h : (0 : Int).toNat < (hdr (u :: r)).size := by rw [hdr_size, List.length_cons]; show 0 < min 6 (r.length + 1); omega
  unfold bt
  rw [dif_pos h]
  rfl
theorem dec_code (s : ByteArray) (a : Int) : (dec s a).2.2 = 0 ∨ (dec s a).2.2 = 10 ∨ (dec s a).2.2 = 11 ∨ (dec s a).2.2 = 12 := by
  unfold dec
  repeat' split
  all_goals simp
theorem dec_range (s : ByteArray) (a : Int) (ha : 0 ≤ a) : 0 ≤ (dec s a).1 ∧ 0 ≤ (dec s a).2.1 ∧ (dec s a).2.1 ≤ a + 5 ∧ ((dec s a).2.2 = 0 → a + 1 ≤ (dec s a).2.1) := by
  have h := bt_range s a
  have h2 := lf_lt s (a + 1) (bt s a - 128).toNat
  unfold dec
  repeat' split
  all_goals simp
  all_goals omega
theorem long {w : World} {av : Nat → Prop} {f : Nat} {l : List UInt8} {a c : Int} {p : Nat → Addr} (h : FS w av f l a c p) (hG : Globs w p) :
    Calls Tryd.prog 30 #[.pointer (some ⟨f, 0, none⟩)] w fun e w' => e = .returned (.tuple #[.int .i64 (longOf l).1, errOf p a (longOf l).2]) ∧ Below w.heap.size w w' := by
  unfold longOf
  cases l with
  | nil => exact long_empty h hG rfl
  | cons u r =>
    rw [if_neg (by simp)]
    rw [hdr_bt]
    by_cases hu : u = 48
    · have hu1 : ¬ ((u.toNat : Int) ≠ 48) := by rw [hu]; decide
      rw [if_neg hu1]
      have hs := hdr_size (u :: r)
      have hd : ∀ W : World, Globs W p → Calls Tryd.prog 41 #[.string (hdr (u :: r)), .int .i64 1] W fun e w' => e = .returned (.tuple #[.int .i64 (dec (hdr (u :: r)) 1).1, .int .i64 (dec (hdr (u :: r)) 1).2.1, .int .i64 (dec (hdr (u :: r)) 1).2.2]) ∧ Below W.heap.size W w' := fun W hW =>
        Size.decode _ 1 W p hW (by omega) (by rw [hs]; simp; omega) (by rw [hs]; unfold maxLen; omega)
      obtain ⟨r1, r2, r3, _⟩ := dec_range (hdr (u :: r)) 1 (by omega)
      rcases dec_code (hdr (u :: r)) 1 with e | e | e | e
      · rw [if_pos e]
        by_cases h4 : (dec (hdr (u :: r)) 1).1 ≤ 4000
        · rw [if_pos h4]
          exact long_ok h hG u r rfl hu _ _ _ hd e h4 r1 r2 (by omega)
        · rw [if_neg h4]
          exact long_large h hG u r rfl hu _ _ _ hd e (by omega)
      · rw [if_neg (by omega), if_neg (by omega), if_neg (by omega)]
        exact long_more h hG u r rfl hu _ _ _ hd e
      · rw [if_neg (by omega), if_neg (by omega), if_pos e]
        exact long_form h hG u r rfl hu _ _ _ hd e
      · rw [if_neg (by omega), if_pos e]
        exact long_size h hG u r rfl hu _ _ _ hd e
    · have hu1 : (u.toNat : Int) ≠ 48 := fun e => hu (UInt8.toNat_inj.1 (by show u.toNat = 48; omega))
      rw [if_pos hu1]
      exact long_tag h hG u r rfl hu
theorem longOf_range (l : List UInt8) : 0 ≤ (longOf l).1 ∧ (longOf l).1 ≤ 5000 ∧ ((longOf l).2 = 0 → 2 ≤ (longOf l).1) := by
  have h := dec_range (hdr l) 1 (by omega)
  unfold longOf
  repeat' split
  all_goals simp
  all_goals omega
theorem longOf_code (l : List UInt8) : (longOf l).2 = 0 ∨ (longOf l).2 = 1 ∨ (longOf l).2 = 11 ∨ (longOf l).2 = 20 ∨ (longOf l).2 = 131 := by
  unfold longOf
  repeat' split
  all_goals simp
/-- the pieces of some bytes, what is left, how many came in pieces, what ends them (1: no more) -/
def run : Nat → List UInt8 → List (List UInt8) × List UInt8 × Nat × Int
  | 0, l => ([], l, 0, 1)
  | n + 1, l => if (longOf l).2 ≠ 0 then ([], l, 0, (longOf l).2) else
    if l.length < (longOf l).1.toNat then ([], l, 0, 1) else
    (l.take (longOf l).1.toNat :: (run n (l.drop (longOf l).1.toNat)).1, (run n (l.drop (longOf l).1.toNat)).2.1, (longOf l).1.toNat + (run n (l.drop (longOf l).1.toNat)).2.2.1, (run n (l.drop (longOf l).1.toNat)).2.2.2)
end Go.Proofs.YtglmnglaliljdaaDoor.Frame
