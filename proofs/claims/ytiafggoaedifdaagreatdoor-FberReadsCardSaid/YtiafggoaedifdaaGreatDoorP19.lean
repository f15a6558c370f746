/- Several texts, one behind the other. filt, walked: what Go's library and other layers give it; names of attributes, short values, which filters are right but for those in them. Conditions: texts of at most 10^6 bytes. filt, walked: which filters are right but for those in them; the same; a text's values; signs. Conditions: filters whose texts have at most 10^6 bytes, and whose lists have at most 10^5. filt, walked: signs; the same. Conditions: filters whose texts have at most 10^6 bytes, and whose lists have at most 10^5. errors.As and errors.Is at an error type of the package Filt: a struct of one cell (Go's text of both is walked). No conditions beyond the shape of memory that each theorem names. errors.Is at an error of the package Filt that wraps the package's sentinel, against a sentinel: true just if it is that one (Go's text is walked). No conditions beyond the shape of memory that each theorem names. filt.told: the number of an error of the package filt. Conditions: the package's variable holds its sentinel. filt, walked: errors told. Conditions: texts of at most 10^6 bytes. -/
import Derived.Test.YtiafggoaedifdaaGreatDoorP17
import Derived.Test.YtiafggoaedifdaaGreatDoorP05
import Derived.Test.YtiafggoaedifdaaGreatDoorP18
import Derived.Test.YtiafggoaedifdaaGreatDoorP03
import Derived.Shelf.Strings.FuncGrows
import Derived.Test.YtiafggoaedifdaaGreatDoorProg
import Derived.WalkKit
import Derived.Below
import Derived.KernelRfl
import Derived.LaidEql
import Derived.Stop.Asserts
import Derived.RowKitTokens
import Derived.Outline
import Derived.Laws.Rows
import Derived.RangeFuncRecord
import Derived.Laws.Tables
import Derived.Test.YtiafggoaedifdaaGreatDoorP01
/- filt, walked: what Go's library and other layers give it; names of attributes, short values, which filters are right but for those in them. Conditions: texts of at most 10^6 bytes. -/
namespace Go.Proofs.YtiafggoaedifdaaGreatDoor.Fi
open Go.RowKit Go.Shelf Go.Lib Fl
set_option linter.unusedVariables false
theorem one_arg {P : Program} {w : World} {g : Gh} {t : T} {vs : List Value} (h : RepTs P w g [t] vs) : ∃ v, vs = [v] ∧ RepT P w g t v := by
 obtain ⟨v, us, rfl, h1, h2⟩ := h
 rw [show us = [] from h2]
 exact ⟨v, rfl, h1⟩
theorem two_args {P : Program} {w : World} {g : Gh} {t t' : T} {vs : List Value} (h : RepTs P w g [t, t'] vs) : ∃ v v', vs = [v, v'] ∧ RepT P w g t v ∧ RepT P w g t' v' := by
 obtain ⟨v, us, rfl, h1, h2⟩ := h
 obtain ⟨v', rfl, h3⟩ := one_arg h2
 exact ⟨v, v', rfl, h1, h3⟩
theorem Fn.use {P : Program} {X : En} {f : FuncId} {args : List T} {r : T} (h : Fn P X f args r) {w : World} {vs : List Value} (hE : X.E w) (ha : RepTs P w ⟨fun _ _ => False, fun _ => (0, 0), fun _ => undef⟩ args vs) : Calls P f vs.toArray w fun e w' => ∃ v L', e = .returned v ∧ Below w.heap.size w w' ∧ RepT P w' ⟨L', fun _ => (0, 0), fun _ => undef⟩ r v :=
 (h.2 w (fun _ _ => False) vs hE (fun h => h.elim) ha).mono fun e w' ⟨v, L', h1, h2, _, _, _, h3⟩ => ⟨v, L', h1, h2, h3⟩
def encS (s : ByteArray) : List V := [.str s]
def spl (c : UInt8) (s : ByteArray) : List ByteArray := (Txt.splitOn c (bl s)).map bt'
variable (p : Nat → Addr)
theorem split_fn (s : ByteArray) (hs : s.size ≤ 100000000) (c : UInt8) : Fn Tryz.prog (envX p) 45 [.v (.str s), .v (.str ⟨#[c]⟩)] (.v (.sl ((spl c s).map encS))) := by
 refine ⟨enter_of (by kernel_rfl), fun w L vs hE hL ha => ?_⟩
 obtain ⟨v, v', rfl, h, h'⟩ := two_args ha
 rw [show v = .string s from h, show v' = .string ⟨#[c]⟩ from h']
 obtain ⟨m, hm⟩ := Env.ml hE
 refine (Shelf.strings_Split s ⟨#[c]⟩ m w (by omega) hm (Nat.le_refl 1)).mono ?_
 rintro e w' ⟨rfl, rfl⟩
 have hS := Txt.split_one s c
 generalize hzs : splitB ⟨#[c]⟩ 0 (countB s ⟨#[c]⟩) s = zs at hS ⊢
 obtain ⟨h1, h2⟩ := hS
 have hz : zs = spl c s := by
  unfold spl
  rw [← h1, List.map_map]
  conv => lhs; rw [← List.map_id zs]
  exact List.map_congr_left fun z _ => rfl
 have hb := below_new w (.cells (zs.map Value.string).toArray 9)
 have hcell : ∀ (i : Nat) (z : ByteArray), zs[i]? = some z → (w.alloc (.cells (zs.map Value.string).toArray 9)).cell? ⟨w.heap.size, i, none⟩ = some (.string z) := fun i z hi => by
  have := cel (heap_alloc_new w (.cells (zs.map Value.string).toArray 9)) i (v := .string z) (by simp [hi])
  exact this
 refine ⟨_, fun b o => L b o ∨ (b = w.heap.size ∧ o < zs.length), rfl, hb, ⟨fun b o u h3 h4 => ⟨.inl h3, cell_below h4 hb⟩, .of_below hb⟩, fun h3 => h3.imp id (fun h3 => by rw [h3.1]; exact Nat.le_refl _), fun {b o} h3 => ?_, ?_⟩
 ·rcases h3 with h3 | ⟨rfl, h3⟩
  ·obtain ⟨u, hu⟩ := hL h3
   exact ⟨u, cell_below hu hb⟩
  ·exact ⟨_, hcell o _ (List.getElem?_eq_getElem h3)⟩
 ·rw [← hz, ← h2]
  refine ⟨some ⟨w.heap.size, 0, none⟩, zs.length, by rw [List.length_map], by rw [List.length_map]; exact Nat.le_refl _, fun _ => ⟨w.heap.size, 0, 1, rfl, RepE.of_get _ _ fun i cc hc => ?_⟩⟩
  rw [List.getElem?_map] at hc
  obtain ⟨z, hzi, rfl⟩ := Option.map_eq_some_iff.1 hc
  refine ⟨rfl, ⟨_, .inr ⟨rfl, ?_⟩, ?_, rfl, rfl⟩, trivial⟩
  ·have := (List.getElem?_eq_some_iff.1 hzi).1; omega
  ·have := hcell i z hzi
   rwa [show 0 + i * 1 = i by omega]
theorem cut_one (c : UInt8) : ∀ l : List UInt8, Lib.cut l [c] = match cutL c l with
  | some (x, y) => (x, y, true)
  | none => (l, [], false)
 | [] => rfl
 | b :: t => by
  have ih := cut_one c t
  have hg := index_ge t [c]
  unfold Lib.cut at ih ⊢
  unfold index
  by_cases hb : b = c
  ·subst hb
   simp [List.isPrefixOf, cutL]
  ·have hp : List.isPrefixOf [c] (b :: t) = false := by simp [List.isPrefixOf, Ne.symm hb]
   rw [hp]
   simp only [Bool.false_eq_true, if_false]
   rw [cutL, if_neg hb]
   by_cases hi : index t [c] = -1
   ·rw [hi] at ih
    simp only [show ¬ (0 : Int) ≤ -1 by omega, if_false] at ih
    cases hc : cutL c t with
    | none => simp [hi]
    | some q => rw [hc] at ih; simp at ih
   ·have hi0 : 0 ≤ index t [c] := by omega
    have hne : (index t [c] == -1) = false := by simpa using hi
    rw [if_pos hi0] at ih
    rw [hne]
    simp only [Bool.false_eq_true, if_false]
    rw [if_pos (by omega)]
    obtain ⟨n, hn⟩ : ∃ n : Nat, index t [c] = n := ⟨(index t [c]).toNat, by omega⟩
    rw [hn] at ih ⊢
    have e1 : ((n : Int) + 1).toNat = n + 1 := by omega
    rw [e1]
    cases hc : cutL c t with
    | none => rw [hc] at ih; simp at ih
    | some q =>
     rw [hc] at ih
     simp only [Int.toNat_natCast, Prod.mk.injEq, and_true] at ih
     obtain ⟨i1, i2⟩ := ih
     simp only [Option.map_some, List.take_succ_cons]
     rw [i1, show n + 1 + [c].length = (n + [c].length) + 1 from rfl, List.drop_succ_cons, i2]
def cutT (c : UInt8) (s : ByteArray) : T := match cutL c (bl s) with
 | some (x, y) => .tup [.v (.str (bt' x)), .v (.str (bt' y)), .v (.bool true)]
 | none => .tup [.v (.str s), .v (.str (bt' [])), .v (.bool false)]
theorem cut_fn (s : ByteArray) (hs : s.size ≤ 100000000) (c : UInt8) : Fn Tryz.prog (envX p) 96 [.v (.str s), .v (.str ⟨#[c]⟩)] (cutT c s) := by
 refine ⟨enter_of (by kernel_rfl), fun w L vs hE hL ha => ?_⟩
 obtain ⟨v, v', rfl, h, h'⟩ := two_args ha
 rw [show v = .string s from h, show v' = .string ⟨#[c]⟩ from h']
 obtain ⟨m, hm⟩ := Env.ml hE
 refine (Shelf.strings_Cut s ⟨#[c]⟩ m w (by omega) hm).mono ?_
 rintro e w' ⟨rfl, n, rfl⟩
 have hb := below_drewN w n
 refine ⟨_, L, rfl, hb, Same.of_below hb, .inl, fun hl => (by obtain ⟨u, hu⟩ := hL hl; exact ⟨u, cell_below hu hb⟩), ?_⟩
 rw [cut_one c s.data.toList]
 unfold cutT
 cases cutL c s.data.toList with
 | none => exact ⟨_, rfl, _, _, rfl, rfl, _, _, rfl, rfl, _, _, rfl, rfl, rfl⟩
 | some q => exact ⟨_, rfl, _, _, rfl, rfl, _, _, rfl, rfl, _, _, rfl, rfl, rfl⟩
theorem contains_fn (s : ByteArray) (c : UInt8) : Fn Tryz.prog (envX p) 73 [.v (.str s), .v (.str ⟨#[c]⟩)] (.v (.bool ((bl s).contains c))) :=
 Fn.of_plain (enter_of (by kernel_rfl)) rfl fun w L vs hE ha => by
  obtain ⟨v, v', rfl, h, h'⟩ := two_args ha
  rw [show v = .string s from h, show v' = .string ⟨#[c]⟩ from h']
  refine (Shelf.strings_Contains_one s c w).mono ?_
  rintro e w' ⟨rfl, rfl⟩
  exact ⟨by rw [Txt.index_mem]; rfl, Below.refl _ _⟩
theorem type_fn (s : ByteArray) : Fn Tryz.prog (envX p) 46 [.v (.str s)] (.v (.bool (Dn.typeB (bl s)))) :=
 Fn.of_plain (enter_of (by kernel_rfl)) rfl fun w L vs hE ha => by
  obtain ⟨v, rfl, h⟩ := one_arg ha
  rw [show v = .string s from h]
  exact Dn.type_calls s w p hE
def noX : En := ⟨fun _ => True, fun _ => False, fun _ h => h.elim, fun _ _ _ => trivial, fun _ _ => False, fun _ h => h.elim⟩
def otherR (r : Nat) : Bool := !((decide (97 ≤ r) && decide (r ≤ 122)) || (decide (65 ≤ r) && decide (r ≤ 90)) || (decide (48 ≤ r) && decide (r ≤ 57)) || decide (r = 45))
theorem other_fn (r : Nat) : Fn Tryz.prog noX 76 [.v (.int .i32 (r : Nat))] (.v (.bool (otherR r))) := by
 unfold otherR
 refine fn_prog tabOk mixed Tryz.f76 Tryz.func76 (by kernel_rfl) (by kernel_rfl) ?_
 conv => whnf
 (repeat' (first | (refine ⟨rfl, cmp_split (fun h => ?_) (fun h => ?_)⟩ <;> (conv => whnf)) | fail))
 all_goals
  refine ⟨.inl (congrArg V.bool ?_), rfl⟩
  simp
  omega
theorem other_grows (w : World) : PredGrows Tryz.prog 76 #[] otherR w := fun W r _ hb => by
 refine (Fn.use (other_fn r) trivial (vs := [.int .i32 (r : Nat)]) ⟨_, _, rfl, rfl, rfl⟩).mono ?_
 rintro e w' ⟨v, L', rfl, hb, hr⟩
 exact ⟨congrArg Ending.returned hr, hb⟩
theorem containsFunc_fn (s : ByteArray) : Fn Tryz.prog (envX p) 77 [.v (.str s), .fn 76 []] (.v (.bool (!(bl s).all Dn.keyRest))) :=
 Fn.of_plain (enter_of (by kernel_rfl)) rfl fun w L vs hE ha => by
  obtain ⟨v, v', rfl, h, cs, rfl, h'⟩ := two_args ha
  rw [show v = .string s from h, show cs = #[] from Array.toList_inj.1 (show cs.toList = [] from h')]
  refine (Any.strings_ContainsFunc_grows Shelf.LaysGwn17 76 #[] (enters_of Tryz.func76 (by kernel_rfl) rfl) otherR s w (other_grows w)).mono ?_
  rintro e w' ⟨rfl, hb⟩
  refine ⟨?_, hb⟩
  rw [Txt.idx_any otherR (fun r h => by unfold otherR; simp; omega) s]
  rw [List.not_all_eq_any_not]
  congr 3
theorem option_fn (s : ByteArray) : Fn Tryz.prog (envX p) 47 [.v (.str s)] (.v (.bool (optB (bl s)))) := by
 refine fn_prog tabOk mixed Tryz.f47 Tryz.func47 (by kernel_rfl) (by kernel_rfl) ?_
 conv => whnf
 refine cmp_split (fun h => ?_) (fun h => ?_)
 ·conv => whnf
  (refine st_call (containsFunc_fn p s) ?_ rfl rfl ?_; (focus (repeat' first|exact trivial|exact rfl|exact .inl rfl|exact .inr ⟨rfl,rfl⟩|refine And.intro ?_ ?_)); conv => whnf)
  have h2 : bl s ≠ [] := fun e => h (by rw [show s = bt' (bl s) from (bl_bt s).symm, e]; rfl)
  refine ⟨.inl (congrArg V.bool ?_), rfl⟩
  unfold optB
  cases hb : bl s with
  | nil => exact absurd hb h2
  | cons c t => simp
 ·conv => whnf
  have h2 : s = bt' [] := Classical.not_not.1 h
  subst h2
  exact ⟨.inl rfl, rfl⟩
theorem all_take_succ {α : Type} (f : α → Bool) (l : List α) (i : Nat) (h : i < l.length) : (l.take (i + 1)).all f = ((l.take i).all f && f l[i]) := by
 rw [List.take_succ_eq_append_getElem h, List.all_append]; simp
theorem all_bad {α : Type} {f : α → Bool} {l : List α} {i : Nat} (h : i < l.length) (hf : f l[i] = false) : l.all f = false := by
 cases hq : l.all f
 ·rfl
 ·have := List.all_eq_true.1 hq l[i] (List.getElem_mem h)
  rw [hf] at this; cases this
theorem short_fn {X : En} (l : List ByteArray) (hl : l.length ≤ 1000000000) : Fn Tryz.prog X 69 [.v (.sl (l.map encS))] (.v (.bool (l.all shortB))) := by
 refine fn_prog tabOk mixed Tryz.f69 Tryz.func69 (by kernel_rfl) (by kernel_rfl) ?_
 conv => whnf
 refine ⟨Nat, fun i => ⟨15, [(5, .v (.sl (l.map encS))), (6, .v (.int .i64 ((l.map encS).length : Nat))), (7, .v (.int .i64 (i : Nat)))], [], []⟩, fun i => i ≤ l.length ∧ (l.take i).all shortB = true, fun i => l.length - i, ⟨0, [], ⟨by omega, rfl⟩, ?_⟩, fun i ⟨hi, ha⟩ => ?_⟩
 ·exact ⟨rfl, rfl, ⟨.inl rfl, .inl rfl, .inl rfl, trivial⟩, trivial, trivial⟩
 conv => whnf
 refine ⟨rfl, cmp_split (fun h => ?_) (fun h => ?_)⟩
 ·rw [List.length_map] at h
  have hil : i < l.length := by omega
  conv => whnf
  refine st_idx hil rfl ?_
  conv => whnf
  refine ⟨rfl, cmp_split (fun h2 => ?_) (fun h2 => ?_)⟩
  ·conv => whnf
   exact ⟨.inl (congrArg V.bool (all_bad hil (by unfold shortB; exact decide_eq_false (by omega))).symm), rfl⟩
  ·conv => whnf
   refine ⟨rfl, st_succ (by omega) ?_⟩
   conv => whnf
   refine ⟨i + 1, [], ⟨by omega, ?_⟩, by dsimp only; omega, ?_⟩
   ·rw [all_take_succ _ _ _ hil, ha]; unfold shortB; simp; omega
   ·exact ⟨rfl, rfl, ⟨.inl rfl, .inl rfl, .inl rfl, trivial⟩, trivial, trivial⟩
 ·rw [List.length_map] at h
  conv => whnf
  rw [List.take_of_length_le (by omega)] at ha
  exact ⟨.inl (congrArg V.bool ha.symm), rfl⟩
theorem split_len (c : UInt8) : ∀ l : List UInt8, (Txt.splitOn c l).length ≤ l.length + 1
 | [] => Nat.le_refl _
 | x :: t => by
  have ih := split_len c t
  rw [Txt.splitOn]
  split
  ·simp; omega
  ·split
   ·simp
   ·rename_i h r e; rw [e] at ih; simp at ih ⊢; omega
theorem name_fn (s : ByteArray) (hs : s.size ≤ 100000000) : Fn Tryz.prog (envX p) 25 [.v (.str s)] (.v (.bool (nameB (bl s)))) := by
 have hlen : (Txt.splitOn 59 (bl s)).length ≤ s.size + 1 := by have := split_len 59 (bl s); rw [Txt.size_list] at this; exact this
 obtain ⟨t, r, hsp⟩ : ∃ t r, Txt.splitOn 59 (bl s) = t :: r := by
  cases h : Txt.splitOn 59 (bl s) with
  | nil => exact absurd h (Txt.splitOn_ne 59 _)
  | cons t r => exact ⟨t, r, rfl⟩
 have hspl : spl 59 s = bt' t :: r.map bt' := by unfold spl; rw [hsp]; rfl
 have hnm : nameB (bl s) = (decide (s.size ≤ 30) && (Dn.typeB t && r.all optB)) := by
  unfold nameB
  rw [hsp, Txt.size_list]
 rw [hsp, List.length_cons] at hlen
 refine fn_prog tabOk mixed Tryz.f25 Tryz.func25 (by kernel_rfl) (by kernel_rfl) ?_
 conv => whnf
 (refine st_call (split_fn p s hs 59) ?_ rfl rfl ?_; (focus (repeat' first|exact trivial|exact rfl|exact .inl rfl|exact .inr ⟨rfl,rfl⟩|refine And.intro ?_ ?_)); conv => whnf)
 rw [hspl]
 refine ⟨rfl, cmp_split (fun h => ?_) (fun h => ?_)⟩
 ·conv => whnf
  exact ⟨.inl (congrArg V.bool (by rw [hnm, decide_eq_false (by omega)]; rfl)), rfl⟩
 conv => whnf
 refine ⟨encS (bt' t), by omega, rfl, rfl, ?_⟩
 conv => whnf
 refine st_callB (type_fn p (bt' t)) ⟨.inl rfl, trivial⟩ rfl (fun hT => ?_) (fun hT => ?_)
 rotate_left
 ·conv => whnf
  rw [bl_of] at hT
  exact ⟨.inl (congrArg V.bool (by rw [hnm, hT]; simp)), rfl⟩
 rw [bl_of] at hT
 rw [decide_eq_true (by omega), hT, Bool.true_and, Bool.true_and] at hnm
 conv => whnf
 refine st_sub 1 (r.length + 1) rfl (by simp) (by omega) (by simp) (fun c hc => by obtain ⟨z, _, rfl⟩ := List.mem_map.1 hc; rfl) (z := (r.map bt').map encS) (by rw [List.take_of_length_le (by simp)]; rfl) ?_
 conv => whnf
 refine ⟨Nat, fun i => ⟨29, [(19, .v (.sl ((r.map bt').map encS))), (20, .v (.int .i64 (((r.map bt').map encS).length : Nat))), (21, .v (.int .i64 (i : Nat)))], [], []⟩, fun i => i ≤ r.length ∧ (r.take i).all optB = true, fun i => r.length - i, ⟨0, [], ⟨by omega, rfl⟩, ?_⟩, fun i ⟨hi, ha⟩ => ?_⟩
 ·exact ⟨rfl, rfl, ⟨.inl rfl, .inl rfl, .inl rfl, trivial⟩, trivial, trivial⟩
 conv => whnf
 refine ⟨rfl, cmp_split (fun h => ?_) (fun h => ?_)⟩
 ·rw [List.length_map, List.length_map] at h
  have hil : i < r.length := by omega
  have hil' : i < (r.map bt').length := by rw [List.length_map]; exact hil
  conv => whnf
  refine st_idx hil' rfl ?_
  rw [List.getElem_map]
  conv => whnf
  refine st_callB (option_fn p (bt' r[i])) ⟨.inl rfl, trivial⟩ rfl (fun hT => ?_) (fun hT => ?_)
  ·rw [bl_of] at hT
   conv => whnf
   refine ⟨rfl, st_succ (by omega) ?_⟩
   conv => whnf
   refine ⟨i + 1, [], ⟨by omega, ?_⟩, by dsimp only; omega, ?_⟩
   ·rw [all_take_succ _ _ _ hil, ha, hT]; rfl
   ·exact ⟨rfl, rfl, ⟨.inl rfl, .inl rfl, .inl rfl, trivial⟩, trivial, trivial⟩
  ·rw [bl_of] at hT
   conv => whnf
   exact ⟨.inl (congrArg V.bool (hnm.trans (all_bad hil hT)).symm), rfl⟩
 ·rw [List.length_map, List.length_map] at h
  conv => whnf
  rw [List.take_of_length_le (by omega)] at ha
  exact ⟨.inl (congrArg V.bool (hnm.trans ha).symm), rfl⟩
end Go.Proofs.YtiafggoaedifdaaGreatDoor.Fi
/- filt, walked: which filters are right but for those in them; the same; a text's values; signs. Conditions: filters whose texts have at most 10^6 bytes, and whose lists have at most 10^5. -/
namespace Go.Proofs.YtiafggoaedifdaaGreatDoor.Fi
open Go.RowKit Go.Shelf Go.Lib Fl
set_option linter.unusedVariables false
mutual
def cF : Flt → List V
 | .mk k n v a f l => [.int .i64 k, .str n, .str v, .sl (a.map encS), .str f, .sl (cFs l)]
def cFs : List Flt → List (List V)
 | [] => []
 | x :: r => cF x :: cFs r
end
theorem cFs_map : ∀ l : List Flt, cFs l = l.map cF
 | [] => rfl
 | x :: r => by rw [cFs, cFs_map r]; rfl
def cG (x : Flt) : List V := [.int .i64 x.kind, .str x.name, .str x.value, .sl (x.any.map encS), .str x.final, .sl (x.l.map cF)]
theorem cG_eq : ∀ x : Flt, cF x = cG x
 | .mk k n v a f l => by rw [cF, cFs_map]; rfl
theorem st_idxF {xs : List Flt} {i : Nat} {K : List V → Prop} (h : i < xs.length) (hK : K (cG (xs[i]'h))) : ∃ c, (0 : Int) ≤ (i : Nat) ∧ (xs.map cF)[((i : Nat) : Int).toNat]? = some c ∧ c.length = 6 ∧ K c :=
 ⟨_, by omega, by rw [Int.toNat_natCast, List.getElem?_map, List.getElem?_eq_getElem h, Option.map_some, cG_eq], rfl, hK⟩
theorem cF_len (x : Flt) : (cF x).length = 6 := by cases x; rfl
mutual
def midF : Flt → Prop
 | .mk k n v a f l => n.size ≤ 100000000 ∧ v.size ≤ 100000000 ∧ f.size ≤ 100000000 ∧ a.length ≤ 100000000 ∧ l.length ≤ 100000000 ∧ midFs l
def midFs : List Flt → Prop
 | [] => True
 | x :: r => midF x ∧ midFs r
end
theorem midFs_mem : ∀ {l : List Flt}, midFs l → ∀ x ∈ l, midF x
 | [], _, x, hx => by cases hx
 | y :: r, h, x, hx => by
  rcases List.mem_cons.1 hx with rfl | hx
  ·exact h.1
  ·exact midFs_mem h.2 x hx
theorem size0 {s : ByteArray} : s.size = 0 ↔ s = { data := #[] } := ⟨fun h => size_zero h, fun h => by rw [h]; rfl⟩
def idxA (c : ByteArray) : List ByteArray → Int
 | [] => -1
 | s :: r => if s = c then 0 else if idxA c r = -1 then -1 else idxA c r + 1
theorem idxA_ge (c : ByteArray) : ∀ l, -1 ≤ idxA c l
 | [] => Int.le_refl _
 | s :: r => by
  have := idxA_ge c r
  rw [idxA]
  split
  ·omega
  ·split <;> omega
theorem idxA_drop (c : ByteArray) : ∀ (l : List ByteArray) (i : Nat), (∀ s ∈ l.take i, s ≠ c) → idxA c l = if idxA c (l.drop i) = -1 then -1 else idxA c (l.drop i) + i
 | l, 0, _ => by rw [List.drop_zero]; split <;> omega
 | [], i + 1, _ => by simp [idxA]
 | s :: r, i + 1, h => by
  have ih := idxA_drop c r i (fun x hx => h x (by simp [hx]))
  have hg := idxA_ge c (r.drop i)
  rw [idxA, if_neg (h s (by simp)), List.drop_succ_cons, ih]
  by_cases hi : idxA c (r.drop i) = -1
  ·simp [hi]
  ·rw [if_neg hi]
   split
   ·omega
   ·push_cast; omega
theorem idxA_any (c : ByteArray) : ∀ l, decide (0 ≤ idxA c l) = l.any fun s => decide (s = c)
 | [] => rfl
 | s :: r => by
  have ih := idxA_any c r
  have hg := idxA_ge c r
  rw [idxA, List.any_cons, ← ih]
  by_cases hs : s = c
  ·simp [hs]
  ·rw [if_neg hs]
   by_cases hi : idxA c r = -1
   ·simp [hi, hs]
   ·rw [if_neg hi]
    simp only [hs, decide_false, Bool.false_or]
    apply decide_eq_decide.2
    omega
theorem index_any {X : En} (l : List ByteArray) (hl : l.length ≤ 100000000) (c : ByteArray) : Fn Tryz.prog X 99 [.v (.sl (l.map encS)), .v (.str c)] (.v (.int .i64 (idxA c l))) := by
 refine fn_prog tabOk mixed Tryz.f99 Tryz.func99 (by kernel_rfl) (by kernel_rfl) ?_
 conv => whnf
 have g0 := idxA_ge c l
 refine ⟨Nat, fun i => ⟨19, [(0, .v (.sl (l.map encS))), (1, .v (.str c)), (7, .v (.int .i64 ((l.map encS).length : Nat))), (8, .v (.int .i64 (i : Nat)))], [], []⟩, fun i => i ≤ l.length ∧ ∀ s ∈ l.take i, s ≠ c, fun i => l.length - i, ⟨0, [], ⟨by omega, by simp⟩, ?_⟩, fun i ⟨hi, ha⟩ => ?_⟩
 ·exact ⟨rfl, rfl, ⟨.inl rfl, .inl rfl, .inl rfl, .inl rfl, trivial⟩, trivial, trivial⟩
 conv => whnf
 have hd := idxA_drop c l i ha
 refine ⟨rfl, cmp_split (fun h => ?_) (fun h => ?_)⟩
 ·rw [List.length_map] at h
  have hil : i < l.length := by omega
  rw [List.drop_eq_getElem_cons hil, idxA] at hd
  conv => whnf
  refine st_idx hil rfl ?_
  conv => whnf
  refine cmp_split (fun h2 => ?_) (fun h2 => ?_)
  ·conv => whnf
   rw [if_pos h2.symm, if_neg (by omega), Int.zero_add] at hd
   exact ⟨.inl (by rw [hd]), rfl⟩
  ·conv => whnf
   refine ⟨rfl, st_succ (by omega) ?_⟩
   conv => whnf
   refine ⟨i + 1, [], ⟨by omega, ?_⟩, by dsimp only; omega, ?_⟩
   ·intro s hs
    rw [List.take_succ_eq_append_getElem hil] at hs
    rcases List.mem_append.1 hs with hs | hs
    ·exact ha s hs
    ·rw [List.mem_singleton.1 hs]; exact fun e => h2 e.symm
   ·exact ⟨rfl, rfl, ⟨.inl rfl, .inl rfl, .inl rfl, .inl rfl, trivial⟩, trivial, trivial⟩
 ·rw [List.length_map] at h
  conv => whnf
  rw [List.drop_eq_nil_of_le (by omega), idxA, if_pos rfl] at hd
  exact ⟨.inl (by rw [hd]), rfl⟩
theorem contains_any {X : En} (l : List ByteArray) (hl : l.length ≤ 100000000) (c : ByteArray) : Fn Tryz.prog X 70 [.v (.sl (l.map encS)), .v (.str c)] (.v (.bool (l.any fun s => decide (s = c)))) := by
 refine fn_prog tabOk mixed Tryz.f70 Tryz.func70 (by kernel_rfl) (by kernel_rfl) ?_
 conv => whnf
 (refine st_call (index_any l hl c) ?_ rfl rfl ?_; (focus (repeat' first|exact trivial|exact rfl|exact .inl rfl|exact .inr ⟨rfl,rfl⟩|refine And.intro ?_ ?_)); conv => whnf)
 rw [← idxA_any]
 refine ⟨rfl, cmp_bool ?_⟩
 conv => whnf
 exact ⟨.inl rfl, rfl⟩
theorem oneB_val (k : Int) (n v : ByteArray) (a : List ByteArray) (f : ByteArray) (l : List Flt) : oneB (.mk k n v a f l) =
  if k = 0 ∨ k = 1 ∨ k = 2 then decide (n = { data := #[] }) && ((decide (v = { data := #[] }) && (decide ((a.length : Int) = 0) && decide (f = { data := #[] }))) && (decide (1 ≤ (l.length : Int)) && (decide ((l.length : Int) ≤ 8) && decide (k = 2 → ¬ 1 < (l.length : Int)))))
  else if k = 7 then (nameB (bl n) && (decide ((l.length : Int) = 0) && (v :: f :: a).all shortB)) && (decide (v = { data := #[] }) && (decide ((a.length : Int) = 0) && decide (f = { data := #[] })))
  else if k = 4 then (nameB (bl n) && (decide ((l.length : Int) = 0) && (v :: f :: a).all shortB)) && (!(decide (v = { data := #[] }) && (decide ((a.length : Int) = 0) && decide (f = { data := #[] }))) && (decide ((a.length : Int) ≤ 4) && !a.any fun s => decide (s = { data := #[] })))
  else if k = 3 ∨ k = 5 ∨ k = 6 ∨ k = 8 then (nameB (bl n) && (decide ((l.length : Int) = 0) && (v :: f :: a).all shortB)) && (decide ((a.length : Int) = 0) && decide (f = { data := #[] }))
  else false := by
 have e0 : ∀ s : ByteArray, decide (s.size = 0) = decide (s = { data := #[] }) := fun s => decide_eq_decide.2 size0
 have e1 : ∀ {α : Type} (s : List α), s.isEmpty = decide ((s.length : Int) = 0) := fun s => by cases s <;> simp <;> omega
 have e2 : (a.all fun s => decide (s.size ≠ 0)) = !a.any fun s => decide (s = { data := #[] }) := by
  rw [List.not_any_eq_all_not]
  congr 1; funext s
  rw [← e0]; simp
 simp only [oneB, bareB, namedB]
 rw [e0, e0, e0, e1, e1, e2]
 have e3 : decide (l.length ≤ 8) = decide ((l.length : Int) ≤ 8) := decide_eq_decide.2 (by omega)
 have e4 : decide (1 ≤ l.length) = decide (1 ≤ (l.length : Int)) := decide_eq_decide.2 (by omega)
 have e5 : decide (k = 2 → l.length ≤ 1) = decide (k = 2 → ¬ 1 < (l.length : Int)) := decide_eq_decide.2 (by constructor <;> intro h hk <;> have := h hk <;> omega)
 have e6 : decide (a.length ≤ 4) = decide ((a.length : Int) ≤ 4) := decide_eq_decide.2 (by omega)
 rw [e3, e4, e5, e6, List.all_cons, List.all_cons]
variable (p : Nat → Addr)
set_option maxHeartbeats 8000000 in
theorem one_fn (k : Int) (n v : ByteArray) (a : List ByteArray) (f : ByteArray) (l : List Flt) (h : midF (.mk k n v a f l)) : Fn Tryz.prog (envX p) 44 [.v (.agg (cF (.mk k n v a f l)))] (.v (.bool (oneB (.mk k n v a f l)))) := by
 obtain ⟨hn, hv, hf, ha, hl, _⟩ := h
 rw [cF, cFs_map]
 refine fn_prog tabOk mixed Tryz.f44 Tryz.func44 (by kernel_rfl) (by kernel_rfl) ?_
 conv => whnf
 refine ⟨none, by kernel_rfl, ?_⟩; conv => whnf
 have ha' : a.length ≤ 100000000 := by omega
 have hsl : ∀ c ∈ a.map encS, c.length = 1 := fun c hc => by obtain ⟨z, _, rfl⟩ := List.mem_map.1 hc; rfl
 (repeat' (first | ((refine cmp_split (fun h => ?_) (fun h => ?_)) <;> (conv => whnf)) | ((refine ⟨rfl, cmp_split (fun h => ?_) (fun h => ?_)⟩) <;> (conv => whnf)) | (((with_reducible apply st_callB (name_fn p n hn)); (focus (repeat' first|exact trivial|exact rfl|exact .inl rfl|exact .inr ⟨rfl,rfl⟩|refine And.intro ?_ ?_)); (focus (exact rfl)); (all_goals intro h)) <;> (conv => whnf)) | ((refine st_app (xs := [[V.str v], [V.str f]]) (by simp; omega) hsl (zs := (v :: f :: a).map encS) rfl ?_) <;> (conv => whnf)) | (((with_reducible apply st_callB (short_fn (v :: f :: a) (by simp; omega))); (focus (repeat' first|exact trivial|exact rfl|exact .inl rfl|exact .inr ⟨rfl,rfl⟩|refine And.intro ?_ ?_)); (focus (exact rfl)); (all_goals intro h)) <;> (conv => whnf)) | (((with_reducible apply st_callB (contains_any a ha' { data := #[] })); (focus (repeat' first|exact trivial|exact rfl|exact .inl rfl|exact .inr ⟨rfl,rfl⟩|refine And.intro ?_ ?_)); (focus (exact rfl)); (all_goals intro h)) <;> (conv => whnf)) | fail))
 all_goals
  refine ⟨.inl (congrArg V.bool ?_), rfl⟩
  clear hn hv hf ha hl ha' hsl
  rw [oneB_val]
  generalize (v :: f :: a).all shortB = S at *
  generalize (a.any fun s => decide (s = { data := #[] })) = A at *
  try simp only [List.length_map] at *
  first
   | (simp_all; done)
   | (simp_all <;> omega)
theorem oneG_fn (x : Flt) (h : midF x) : Fn Tryz.prog (envX p) 44 [.v (.agg (cG x))] (.v (.bool (oneB x))) := by
 cases x with
 | mk k n v a f l => rw [← cG_eq]; exact one_fn p k n v a f l h
theorem midF_at {x : Flt} (h : midF x) : x.name.size ≤ 100000000 ∧ x.value.size ≤ 100000000 ∧ x.final.size ≤ 100000000 ∧ x.any.length ≤ 100000000 ∧ x.l.length ≤ 100000000 ∧ midFs x.l := by
 cases x; exact h
def f0 : Flt := .mk 0 (bt' []) (bt' []) [] (bt' []) []
end Go.Proofs.YtiafggoaedifdaaGreatDoor.Fi
/- filt, walked: signs; the same. Conditions: filters whose texts have at most 10^6 bytes, and whose lists have at most 10^5. -/
namespace Go.Proofs.YtiafggoaedifdaaGreatDoor.Fi
open Go.RowKit Go.Shelf Go.Lib Fl
set_option linter.unusedVariables false
variable {X : En}
def signKs : List V := [.int .i64 0, .int .i64 1, .int .i64 2, .int .i64 3, .int .i64 5, .int .i64 6, .int .i64 8]
def signVs : List V := [.str { data := #[38] }, .str { data := #[124] }, .str { data := #[33] }, .str { data := #[61] }, .str { data := #[62, 61] }, .str { data := #[60, 61] }, .str { data := #[126, 61] }]
theorem signs_fn : Fn Tryz.prog X 64 [] (.v (.mp signKs signVs)) := by
 refine fn_prog tabOk mixed Tryz.f64 Tryz.func64 (by kernel_rfl) (by kernel_rfl) ?_
 conv => whnf
 exact ⟨.inl rfl, rfl⟩
theorem sign_get (k : Int) : mget (.int .i64 k) signKs signVs = if k = 0 ∨ k = 1 ∨ k = 2 ∨ k = 3 ∨ k = 5 ∨ k = 6 ∨ k = 8 then some (.str (bt' (signB k))) else none := by
 unfold signKs signVs signB
 by_cases h0 : k = 0
 ·subst h0; rfl
 by_cases h1 : k = 1
 ·subst h1; rfl
 by_cases h2 : k = 2
 ·subst h2; rfl
 by_cases h3 : k = 3
 ·subst h3; rfl
 by_cases h5 : k = 5
 ·subst h5; rfl
 by_cases h6 : k = 6
 ·subst h6; rfl
 by_cases h8 : k = 8
 ·subst h8; rfl
 simp [mget, h0, h1, h2, h3, h5, h6, h8]
theorem eqS_fn (a b : List ByteArray) (ha : a.length ≤ 100000000) : Fn Tryz.prog X 41 [.v (.sl (a.map encS)), .v (.sl (b.map encS))] (.v (.bool (decide (a = b)))) := by
 refine fn_prog tabOk mixed Tryz.f41 Tryz.func41 (by kernel_rfl) (by kernel_rfl) ?_
 conv => whnf
 refine ⟨rfl, cmp_split (fun h => ?_) (fun h => ?_)⟩
 ·rw [List.length_map, List.length_map] at h
  conv => whnf
  exact ⟨.inl (congrArg V.bool (decide_eq_false (fun e => h (by rw [e]))).symm), rfl⟩
 rw [List.length_map, List.length_map] at h
 have hab : a.length = b.length := by omega
 conv => whnf
 refine ⟨Nat, fun i => ⟨26, [(0, .v (.sl (a.map encS))), (1, .v (.sl (b.map encS))), (12, .v (.int .i64 ((a.map encS).length : Nat))), (13, .v (.int .i64 (i : Nat)))], [], []⟩, fun i => i ≤ a.length ∧ a.take i = b.take i, fun i => a.length - i, ⟨0, [], ⟨by omega, by simp⟩, ?_⟩, fun i ⟨hi, he⟩ => ?_⟩
 ·exact ⟨rfl, rfl, ⟨.inl rfl, .inl rfl, .inl rfl, .inl rfl, trivial⟩, trivial, trivial⟩
 conv => whnf
 refine ⟨rfl, cmp_split (fun h => ?_) (fun h => ?_)⟩
 ·rw [List.length_map] at h
  have hil : i < a.length := by omega
  have hib : i < b.length := by omega
  conv => whnf
  refine ⟨none, by kernel_rfl, ?_⟩; conv => whnf
  refine st_idx hil rfl ?_
  conv => whnf
  refine st_idx hib rfl ?_
  conv => whnf
  refine cmp_split (fun h2 => ?_) (fun h2 => ?_)
  ·conv => whnf
   exact ⟨.inl (congrArg V.bool (decide_eq_false (fun e => h2 (by subst e; rfl))).symm), rfl⟩
  ·conv => whnf
   refine ⟨rfl, st_succ (by omega) ?_⟩
   conv => whnf
   refine ⟨i + 1, [], ⟨by omega, ?_⟩, by dsimp only; omega, ?_⟩
   ·rw [List.take_succ_eq_append_getElem hil, List.take_succ_eq_append_getElem hib, he, Classical.not_not.1 h2]
   ·exact ⟨rfl, rfl, ⟨.inl rfl, .inl rfl, .inl rfl, .inl rfl, trivial⟩, trivial, trivial⟩
 ·rw [List.length_map] at h
  conv => whnf
  rw [List.take_of_length_le (by omega), List.take_of_length_le (by omega)] at he
  exact ⟨.inl (congrArg V.bool (decide_eq_true he).symm), rfl⟩
theorem sames_zip : ∀ (l m : List Flt), l.length = m.length → sameFs l m = true ∨ ∃ i, ∃ (h : i < l.length) (h' : i < m.length), sameF l[i] m[i] = false := by
 intro l
 induction l with
 | nil => intro m h; cases m with
  | nil => exact .inl rfl
  | cons _ _ => simp at h
 | cons x r ih => intro m h; cases m with
  | nil => simp at h
  | cons y s =>
   cases hxy : sameF x y
   ·exact .inr ⟨0, by simp, by simp, hxy⟩
   ·rcases ih s (by simpa using h) with h1 | ⟨i, h1, h2, h3⟩
    ·exact .inl (by rw [sameFs, hxy, h1]; rfl)
    ·exact .inr ⟨i + 1, by simpa using h1, by simpa using h2, by simpa using h3⟩
theorem sames_len : ∀ (l m : List Flt), sameFs l m = true → l.length = m.length := fun l m h => by rw [(sameFs_iff l m).1 h]
theorem sames_bad {l m : List Flt} {i : Nat} (h : i < l.length) (h' : i < m.length) (hf : sameF l[i] m[i] = false) : sameFs l m = false := by
 cases hq : sameFs l m
 ·rfl
 ·have := (sameFs_iff l m).1 hq
  subst this
  rw [sameF_refl] at hf; cases hf
set_option maxHeartbeats 100000000 in
theorem eqF_fn (l m : List Flt) (hl : l.length ≤ 100000000) (hf : ∀ x ∈ l, ∀ y ∈ m, Fn Tryz.prog X 21 [.v (.agg (cG x)), .v (.agg (cG y))] (.v (.bool (sameF x y)))) : Fn Tryz.prog X 42 [.v (.sl (l.map cF)), .v (.sl (m.map cF)), .fn 21 []] (.v (.bool (sameFs l m))) := by
 refine fn_prog tabOk mixed Tryz.f42 Tryz.func42 (by kernel_rfl) (by kernel_rfl) ?_
 conv => whnf
 refine ⟨rfl, cmp_split (fun h => ?_) (fun h => ?_)⟩
 ·rw [List.length_map, List.length_map] at h
  conv => whnf
  refine ⟨.inl (congrArg V.bool ?_), rfl⟩
  cases hq : sameFs l m
  ·rfl
  ·exact absurd (by rw [sames_len l m hq]) h
 rw [List.length_map, List.length_map] at h
 have hab : l.length = m.length := by omega
 conv => whnf
 refine ⟨Nat, fun i => ⟨32, [(1, .v (.sl (m.map cF))), (2, .fn 21 []), (15, .v (.sl (l.map cF))), (16, .v (.int .i64 ((l.map cF).length : Nat))), (17, .v (.int .i64 (i : Nat)))], [], []⟩, fun i => i ≤ l.length ∧ ∀ j (h : j < i) (h1 : j < l.length) (h2 : j < m.length), sameF l[j] m[j] = true, fun i => l.length - i, ⟨0, [], ⟨by omega, fun j h => by omega⟩, ?_⟩, fun i ⟨hi, he⟩ => ?_⟩
 ·exact ⟨rfl, rfl, ⟨.inl rfl, ⟨rfl, trivial, rfl⟩, .inl rfl, .inl rfl, .inl rfl, trivial⟩, trivial, trivial⟩
 conv => whnf
 refine ⟨rfl, cmp_split (fun h => ?_) (fun h => ?_)⟩
 ·rw [List.length_map] at h
  have hil : i < l.length := by omega
  have him : i < m.length := by omega
  conv => whnf
  refine st_idxF hil ?_
  conv => whnf
  refine st_idxF him ?_
  conv => whnf
  refine st_callB (hf l[i] (List.getElem_mem hil) m[i] (List.getElem_mem him)) ⟨.inl rfl, .inl rfl, trivial⟩ rfl (fun h2 => ?_) (fun h2 => ?_)
  ·conv => whnf
   refine ⟨rfl, st_succ (by omega) ?_⟩
   conv => whnf
   refine ⟨i + 1, [], ⟨by omega, fun j hj h1 h3 => ?_⟩, by dsimp only; omega, ?_⟩
   ·by_cases e : j = i
    ·subst e; exact h2
    ·exact he j (by omega) h1 h3
   ·exact ⟨rfl, rfl, ⟨.inl rfl, ⟨rfl, trivial, rfl⟩, .inl rfl, .inl rfl, .inl rfl, trivial⟩, trivial, trivial⟩
  ·conv => whnf
   exact ⟨.inl (congrArg V.bool (sames_bad hil him h2).symm), rfl⟩
 ·rw [List.length_map] at h
  conv => whnf
  refine ⟨.inl (congrArg V.bool ?_), rfl⟩
  rcases sames_zip l m hab with h1 | ⟨j, h1, h2, h3⟩
  ·exact h1.symm
  ·rw [he j (by omega) h1 h2] at h3; cases h3
theorem sameF_val (x y : Flt) : sameF x y = (decide (x.kind = y.kind) && (decide (x.name = y.name) && (decide (x.value = y.value) && (decide (x.final = y.final) && (decide (x.any = y.any) && sameFs x.l y.l))))) := by
 cases x; cases y
 rw [sameF]
 rfl
theorem mk_kind (k : Int) (n v : ByteArray) (a : List ByteArray) (f : ByteArray) (l : List Flt) : (Flt.mk k n v a f l).kind = k := rfl
theorem mk_name (k : Int) (n v : ByteArray) (a : List ByteArray) (f : ByteArray) (l : List Flt) : (Flt.mk k n v a f l).name = n := rfl
theorem mk_value (k : Int) (n v : ByteArray) (a : List ByteArray) (f : ByteArray) (l : List Flt) : (Flt.mk k n v a f l).value = v := rfl
theorem mk_final (k : Int) (n v : ByteArray) (a : List ByteArray) (f : ByteArray) (l : List Flt) : (Flt.mk k n v a f l).final = f := rfl
mutual
theorem same_fn : ∀ (x : Flt) (y : Flt), midF x → midF y → Fn Tryz.prog X 21 [.v (.agg (cG x)), .v (.agg (cG y))] (.v (.bool (sameF x y)))
 | .mk k n v a f l, y, hx, hy => by
  have hl := same_fns l
  obtain ⟨x1, x2, x3, x4, x5, x6⟩ := hx
  obtain ⟨y1, y2, y3, y4, y5, y6⟩ := midF_at hy
  have hE := eqS_fn (X := X) a y.any (by omega)
  have hF := eqF_fn l y.l (by omega) (fun z hz u hu => hl z hz u (midFs_mem x6 z hz) (midFs_mem y6 u hu))
  rw [show sameF (.mk k n v a f l) y = (decide (k = y.kind) && (decide (n = y.name) && (decide (v = y.value) && (decide (f = y.final) && (decide (a = y.any) && sameFs l y.l))))) from sameF_val _ _]
  refine fn_prog tabOk mixed Tryz.f21 Tryz.func21 (by kernel_rfl) (by kernel_rfl) ?_
  conv => whnf
  (repeat' (first | ((refine cmp_split (fun h => ?_) (fun h => ?_)) <;> (conv => whnf)) | ((refine ⟨rfl, cmp_split (fun h => ?_) (fun h => ?_)⟩) <;> (conv => whnf)) | (((with_reducible apply st_callB (hE)); (focus (repeat' first|exact trivial|exact rfl|exact .inl rfl|exact .inr ⟨rfl,rfl⟩|refine And.intro ?_ ?_)); (focus (exact rfl)); (all_goals intro h)) <;> (conv => whnf)) | (((with_reducible apply st_callB (hF)); (focus (repeat' first|exact trivial|exact rfl|exact .inl rfl|exact .inr ⟨rfl,rfl⟩|refine And.intro ?_ ?_)); (focus (exact rfl)); (all_goals intro h)) <;> (conv => whnf)) | fail))
  all_goals
   refine ⟨.inl (congrArg V.bool ?_), rfl⟩
   clear hl x1 x2 x3 x4 x5 x6 y1 y2 y3 y4 y5 y6 hE hF
   clear hy
   simp only [mk_kind, mk_name, mk_value, mk_final] at *
   simp [*]
theorem same_fns : ∀ (l : List Flt), ∀ z ∈ l, ∀ (y : Flt), midF z → midF y → Fn Tryz.prog X 21 [.v (.agg (cG z)), .v (.agg (cG y))] (.v (.bool (sameF z y)))
 | [], z, hz, _ => by cases hz
 | x :: r, z, hz, y => by
  intro h1 h2
  have hx := same_fn x
  have hr := same_fns r
  rcases List.mem_cons.1 hz with e | hz
  ·rw [e] at h1 ⊢; exact hx y h1 h2
  ·exact hr z hz y h1 h2
end
end Go.Proofs.YtiafggoaedifdaaGreatDoor.Fi
/- errors.As and errors.Is at an error type of the package Filt: a struct of one cell (Go's text of both is walked). No conditions beyond the shape of memory that each theorem names. -/
namespace Go.Proofs.YtiafggoaedifdaaGreatDoor.AsFilt
open Go.RowKit Go.Extern.Stop Go.Stop Go.Extern
theorem rlm (z : Sem Value) (f : TypeId → Addr → Nat → Nat → Sem Value) (v : Value) :
  ReflectliteValue.method z f #[v] = (do match ← ReflectliteValue.parts v with | none => z | some (t, a, fl) => f t a fl (fl % 32)) := rfl
theorem rls (v x : Value) : ReflectliteValue.set #[v, x] = (do
  let (some (dst, a, fl), some (src, b, _)) := (← ReflectliteValue.parts v, ← ReflectliteValue.parts x)
   | unsupported (.noEntry "extern/(internal/reflectlite.Value).Set.zeroValue")
  if fl / ReflectliteValue.flagAddr % 2 == 0 then unsupported (.noEntry "extern/(internal/reflectlite.Value).Set.unaddressable")
  let val ← loadVar src b
  if ← Rtype.directlyAssignable dst src then storeVar dst a val
  else if ← Rtype.implements dst src then
   if (← Rtype.kind src) == 20 then
    match val with
    | .nilIface => unsupported (.noEntry "extern/reflectlite: a nil value of one interface type handed on as a value of another")
    | _ => storeVar dst a val
   else storeVar dst a (.iface src val)
  else panicString ("reflectlite.Set: value of type " ++ (← Rtype.spelt src) ++ " is not assignable to type " ++ (← Rtype.spelt dst))
  pure (.tuple #[])) := rfl
theorem below_setRow {B g : Nat} {w w' : World} (h : Below B w w') (hB : B ≤ g) (cs : Array Value) : Below B w (w'.setRow g cs) :=
 h.trans ⟨rfl, rfl, rfl, by simp [World.setRow], fun k hk => by simp only [World.setRow, Array.getElem?_modify]; rw [if_neg (by omega)]⟩
theorem valueOfP (t : Addr) (w : World) : (ReflectliteValue.unpack (.iface 87 (.pointer (some t)))).run Tryz.prog w
  = .ok (.agg #[.pointer (some ⟨16, 87, none⟩), .pointer (some ⟨w.heap.size, 0, none⟩), .int .u64 150]) (w.alloc (.cells #[.pointer (some t)] 87)) := by kernel_rfl
theorem typeP (a : Addr) (w : World) : (ReflectliteValue.methodAny (ReflectliteValue.valueError "reflectlite.Value.Type" 0) (fun t _ _ _ => ReflectliteType.toType t) #[.agg #[.pointer (some ⟨16, 87, none⟩), .pointer (some a), .int .u64 150]]).run Tryz.prog w
  = .ok (.iface 178 (.agg #[.pointer (some ⟨16, 87, none⟩)])) w := by kernel_rfl
theorem elemP (w : World) : (ReflectliteType.method ReflectliteType.elem #[.agg #[.pointer (some ⟨16, 87, none⟩)]]).run Tryz.prog w = .ok (.iface 178 (.agg #[.pointer (some ⟨16, 58, none⟩)])) w := by kernel_rfl
theorem kindP (w : World) : ((ReflectliteType.abiMethod fun t => (fun a : Nat => Value.int IntKind.u8 (a : Int)) <$> Rtype.kind t) #[.pointer (some ⟨16, 87, none⟩)]).run Tryz.prog w = .ok (.int .u8 22) w := by kernel_rfl
theorem kindW (w : World) : ((ReflectliteType.abiMethod fun t => (fun a : Nat => Value.int IntKind.u8 (a : Int)) <$> Rtype.kind t) #[.pointer (some ⟨16, 58, none⟩)]).run Tryz.prog w = .ok (.int .u8 25) w := by kernel_rfl
theorem implementsW (w : World) : (ReflectliteType.relation "Implements" ReflectliteType.implements_ #[.agg #[.pointer (some ⟨16, 58, none⟩)], .iface 178 (.agg #[.pointer (some ⟨16, 61, none⟩)])]).run Tryz.prog w = .ok (.bool true) w := by kernel_rfl
theorem typeOfW (v : Value) (w : World) : (ReflectliteType.typeOf #[.iface 58 v]).run Tryz.prog w = .ok (.iface 178 (.agg #[.pointer (some ⟨16, 58, none⟩)])) w := by kernel_rfl
theorem assignW (w : World) : (ReflectliteType.relation "AssignableTo" ReflectliteType.assignableTo #[.agg #[.pointer (some ⟨16, 58, none⟩)], .iface 178 (.agg #[.pointer (some ⟨16, 58, none⟩)])]).run Tryz.prog w = .ok (.bool true) w := by kernel_rfl
theorem valueOfW (x : Value) (w : World) : (ReflectliteValue.unpack (.iface 58 (.agg #[x]))).run Tryz.prog w
  = .ok (.agg #[.pointer (some ⟨16, 58, none⟩), .pointer (some ⟨w.heap.size, 0, none⟩), .int .u64 153]) (w.alloc (.cells #[x] 58)) := by kernel_rfl
theorem methodKind (h : Value) (w : World) : (Go.method 396 178 (.agg #[h]) "Kind").run Tryz.prog w = .ok (192, h) w := by kernel_rfl
theorem methodElem (h : Value) (w : World) : (Go.method 396 178 (.agg #[h]) "Elem").run Tryz.prog w = .ok (209, .agg #[h]) w := by kernel_rfl
theorem methodImplements (h : Value) (w : World) : (Go.method 396 178 (.agg #[h]) "Implements").run Tryz.prog w = .ok (210, .agg #[h]) w := by kernel_rfl
theorem methodAssignableTo (h : Value) (w : World) : (Go.method 396 178 (.agg #[h]) "AssignableTo").run Tryz.prog w = .ok (207, .agg #[h]) w := by kernel_rfl
theorem parts (a : Addr) (w : World) : (ReflectliteValue.parts (.agg #[.pointer (some ⟨16, 87, none⟩), .pointer (some a), .int .u64 150])).run Tryz.prog w = .ok (some (87, a, 150)) w := by kernel_rfl
theorem partsWa (a : Addr) (w : World) : (ReflectliteValue.parts (.agg #[.pointer (some ⟨16, 58, none⟩), .pointer (some a), .int .u64 409])).run Tryz.prog w = .ok (some (58, a, 409)) w := by kernel_rfl
theorem partsW (a : Addr) (w : World) : (ReflectliteValue.parts (.agg #[.pointer (some ⟨16, 58, none⟩), .pointer (some a), .int .u64 153])).run Tryz.prog w = .ok (some (58, a, 153)) w := by kernel_rfl
theorem elemOf (w : World) : (Rtype.elem? 87).run Tryz.prog w = .ok (some 58) w := by kernel_rfl
theorem mkW (p : Addr) (w : World) : (ReflectliteValue.mk 58 p ReflectliteValue.flagAddr).run Tryz.prog w = .ok (.agg #[.pointer (some ⟨16, 58, none⟩), .pointer (some p), .int .u64 409]) w := by kernel_rfl
theorem isNil (a p : Addr) (W : World) (ha : W.cell? a = some (.pointer (some p))) :
  (ReflectliteValue.method (ReflectliteValue.valueError "reflectlite.Value.IsNil" 0) ReflectliteValue.isNil #[.agg #[.pointer (some ⟨16, 87, none⟩), .pointer (some a), .int .u64 150]]).run Tryz.prog W = .ok (.bool false) W := by
 rw [rlm]
 simp only [Sem.run_bind, parts, Result.andThen]
 simp [ReflectliteValue.isNil, loadVar, isAgg, underlying, Tryz.underlying87, ha, Result.andThen]
theorem elemV (a p : Addr) (W : World) (ha : W.cell? a = some (.pointer (some p))) :
  (ReflectliteValue.method (ReflectliteValue.valueError "reflectlite.Value.Elem" 0) ReflectliteValue.elem #[.agg #[.pointer (some ⟨16, 87, none⟩), .pointer (some a), .int .u64 150]]).run Tryz.prog W
   = .ok (.agg #[.pointer (some ⟨16, 58, none⟩), .pointer (some p), .int .u64 409]) W := by
 rw [rlm]
 simp only [Sem.run_bind, parts, Result.andThen]
 simp [ReflectliteValue.elem, loadVar, isAgg, underlying, Tryz.underlying87, ha, Result.andThen, elemOf, mkW]
theorem direct (w : World) : (Rtype.directlyAssignable 58 58).run Tryz.prog w = .ok true w := by kernel_rfl
theorem setW (g b : Nat) (old0 x : Value) (fr : Nat × Nat) (W : World) (hx : x.oneCell' = true) (hb : W.heap[b]? = some (.cells #[x] 58 fr)) (ht : W.heap[g]? = some (.cells #[old0] 58 (0, 0))) :
  (ReflectliteValue.set #[.agg #[.pointer (some ⟨16, 58, none⟩), .pointer (some ⟨g, 0, none⟩), .int .u64 409], .agg #[.pointer (some ⟨16, 58, none⟩), .pointer (some ⟨b, 0, none⟩), .int .u64 153]]).run Tryz.prog W
   = .ok (.tuple #[]) (W.setRow g #[x]) := by
 have hl := run_loadVar_row (P := Tryz.prog) W b 58 58 #[x] fr _ hb Tryz.underlying58 rfl (by kernel_rfl)
 have hs := run_storeVar_row (P := Tryz.prog) W g 58 58 #[old0] #[x] ht (by kernel_rfl) rfl (by simp [hx])
 rw [rls]
 simp only [Sem.run_bind, partsWa, partsW, Result.andThen]
 simp [ReflectliteValue.flagAddr, hl, hs, Result.andThen, direct]
set_option maxHeartbeats 4000000 in
set_option maxRecDepth 100000 in
theorem as_hit (g : Nat) (old0 x : Value) (w : World) (hx : x.oneCell' = true) (hg : w.cell? ⟨4, 0, none⟩ = some (.iface 178 (.agg #[.pointer (some ⟨16, 61, none⟩)])))
  (ht : w.heap[g]? = some (.cells #[old0] 58 (0, 0))) :
  Calls Tryz.prog 62 #[.iface 58 (.agg #[x]), .iface 87 (.pointer (some ⟨g, 0, none⟩))] w fun ev w' => ev = .returned (.bool true) ∧ Below g w w' ∧ w'.heap[g]? = some (.cells #[x] 58 (0, 0)) := by
 have h6 := @run_callFunc_extern Tryz.prog 89 _ (fun args => ReflectliteValue.unpack (args.getD 0 (.tuple #[]))) Tryz.func89 (by kernel_rfl) (by kernel_rfl) (by kernel_rfl) (by kernel_rfl)
 have h7 := @run_callFunc_extern Tryz.prog 90 _ (ReflectliteValue.methodAny (ReflectliteValue.valueError "reflectlite.Value.Type" 0) (fun t _ _ _ => ReflectliteType.toType t)) Tryz.func90 (by kernel_rfl) (by kernel_rfl) (by kernel_rfl) (by kernel_rfl)
 have h8 := @run_callFunc_extern Tryz.prog 91 _ (ReflectliteValue.method (ReflectliteValue.valueError "reflectlite.Value.IsNil" 0) ReflectliteValue.isNil) Tryz.func91 (by kernel_rfl) (by kernel_rfl) (by kernel_rfl) (by kernel_rfl)
 have h27 := @run_callFunc_extern Tryz.prog 192 _ (ReflectliteType.abiMethod fun t => do pure (.int .u8 (← Rtype.kind t))) Tryz.func192 (by kernel_rfl) (by kernel_rfl) (by kernel_rfl) (by kernel_rfl)
 have h37 := @run_callFunc_extern Tryz.prog 209 _ (ReflectliteType.method ReflectliteType.elem) Tryz.func209 (by kernel_rfl) (by kernel_rfl) (by kernel_rfl) (by kernel_rfl)
 have h38 := @run_callFunc_extern Tryz.prog 210 _ (ReflectliteType.relation "Implements" ReflectliteType.implements_) Tryz.func210 (by kernel_rfl) (by kernel_rfl) (by kernel_rfl) (by kernel_rfl)
 have h10 := @run_callFunc_extern Tryz.prog 87 _ ReflectliteType.typeOf Tryz.func87 (by kernel_rfl) (by kernel_rfl) (by kernel_rfl) (by kernel_rfl)
 have h35 := @run_callFunc_extern Tryz.prog 207 _ (ReflectliteType.relation "AssignableTo" ReflectliteType.assignableTo) Tryz.func207 (by kernel_rfl) (by kernel_rfl) (by kernel_rfl) (by kernel_rfl)
 have h11 := @run_callFunc_extern Tryz.prog 119 _ (ReflectliteValue.method (ReflectliteValue.valueError "reflectlite.Value.Elem" 0) ReflectliteValue.elem) Tryz.func119 (by kernel_rfl) (by kernel_rfl) (by kernel_rfl) (by kernel_rfl)
 have h12 := @run_callFunc_extern Tryz.prog 120 _ ReflectliteValue.set Tryz.func120 (by kernel_rfl) (by kernel_rfl) (by kernel_rfl) (by kernel_rfl)
 have tO := typeOfW
 have mA := methodAssignableTo
 have a25 := assignW
 have v25 := valueOfW
 have f6 := valueOfP
 have f7 := typeP
 have mK := methodKind
 have mE := methodElem
 have mI := methodImplements
 have k27 := kindP
 have k25 := kindW
 have e27 := elemP
 have i25 := implementsW
 have hlt : g < w.heap.size := by
  rcases Nat.lt_or_ge g w.heap.size with h | h
  ·exact h
  ·simp [Array.getElem?_eq_none h] at ht
 have hgg : 4 < w.heap.size := by
  rcases Nat.lt_or_ge 4 w.heap.size with h | h
  ·exact h
  ·simp [World.cell?, Array.getElem?_eq_none h] at hg
 have hg2 : ((w.alloc (.cells #[.pointer (some ⟨g, 0, none⟩)] 87)).alloc (.cells #[.pointer (some ⟨16, 87, none⟩), .pointer (some ⟨w.heap.size, 0, none⟩), .int .u64 150] 136)).cell? ⟨4, 0, none⟩ = some (.iface 178 (.agg #[.pointer (some ⟨16, 61, none⟩)])) := by
  rw [World.cell?_alloc_lt _ _ ⟨4, 0, none⟩ (by simp; omega), World.cell?_alloc_lt _ _ ⟨4, 0, none⟩ hgg]; exact hg
 have n8 := isNil ⟨w.heap.size, 0, none⟩ ⟨g, 0, none⟩ ((w.alloc (.cells #[.pointer (some ⟨g, 0, none⟩)] 87)).alloc (.cells #[.pointer (some ⟨16, 87, none⟩), .pointer (some ⟨w.heap.size, 0, none⟩), .int .u64 150] 136)) (by simp)
 have el := elemV ⟨w.heap.size, 0, none⟩ ⟨g, 0, none⟩ (((w.alloc (.cells #[.pointer (some ⟨g, 0, none⟩)] 87)).alloc (.cells #[.pointer (some ⟨16, 87, none⟩), .pointer (some ⟨w.heap.size, 0, none⟩), .int .u64 150] 136)).alloc (.cells #[.pointer (some ⟨16, 87, none⟩), .pointer (some ⟨w.heap.size, 0, none⟩), .int .u64 150] 136)) (by rw [World.cell?_alloc_lt _ _ ⟨w.heap.size, 0, none⟩ (by simp; omega)]; simp)
 have st := setW g (w.heap.size + 1 + 1 + 1) old0 x (0, 0) ((((w.alloc (.cells #[.pointer (some ⟨g, 0, none⟩)] 87)).alloc (.cells #[.pointer (some ⟨16, 87, none⟩), .pointer (some ⟨w.heap.size, 0, none⟩), .int .u64 150] 136)).alloc (.cells #[.pointer (some ⟨16, 87, none⟩), .pointer (some ⟨w.heap.size, 0, none⟩), .int .u64 150] 136)).alloc (.cells #[x] 58)) hx (by have := World.alloc_heap_new (((w.alloc (.cells #[.pointer (some ⟨g, 0, none⟩)] 87)).alloc (.cells #[.pointer (some ⟨16, 87, none⟩), .pointer (some ⟨w.heap.size, 0, none⟩), .int .u64 150] 136)).alloc (.cells #[.pointer (some ⟨16, 87, none⟩), .pointer (some ⟨w.heap.size, 0, none⟩), .int .u64 150] 136)) (.cells #[x] 58); simpa using this) (by rw [Below.heap_alloc _ _ _ (by simp; omega), Below.heap_alloc _ _ _ (by simp; omega), Below.heap_alloc _ _ _ (by simp; omega), Below.heap_alloc _ _ _ hlt]; exact ht)
 go_enter Tryz.func62, Tryz.ntmps62
 go_wp2
 refine wp_loop_rounds 1 ?_
 rw [rounds_succ]
 go_wp2
 go_ret
 refine ⟨rfl, ?_, ?_⟩
 ·exact below_setRow ((((((Below.refl g w).alloc (by omega) _).alloc (by simp; omega) _).alloc (by simp; omega) _).alloc (by simp; omega) _)) (Nat.le_refl _) _
 ·refine setRow_heap _ g #[old0] _ _ _ ?_
  rw [Below.heap_alloc _ _ _ (by simp; omega), Below.heap_alloc _ _ _ (by simp; omega), Below.heap_alloc _ _ _ (by simp; omega), Below.heap_alloc _ _ _ hlt]; exact ht
set_option maxRecDepth 100000 in
theorem as_nil (g : Nat) (old0 : Value) (w : World) (_ht : w.heap[g]? = some (.cells #[old0] 58 (0, 0))) :
  Calls Tryz.prog 62 #[.nilIface, .iface 87 (.pointer (some ⟨g, 0, none⟩))] w fun ev w' => ev = .returned (.bool false) ∧ Below w.heap.size w w' := by
 go_enter Tryz.func62, Tryz.ntmps62
 go_wp2
 go_ret
 exact ⟨rfl, Below.refl _ _⟩
end Go.Proofs.YtiafggoaedifdaaGreatDoor.AsFilt
/- errors.Is at an error of the package Filt that wraps the package's sentinel, against a sentinel: true just if it is that one (Go's text is walked). No conditions beyond the shape of memory that each theorem names. -/
namespace Go.Proofs.YtiafggoaedifdaaGreatDoor.IsFilt
open Go.RowKit Go.Extern.Stop Go.Stop Go.Extern
theorem isTypeOf (v : Value) (w : World) : (Extern.ReflectliteType.typeOf #[.iface 266 v]).run Tryz.prog w = .ok (.iface 178 (.agg #[.pointer (some ⟨16, 266, none⟩)])) w := by kernel_rfl
def cmpEntry : Array Value → Sem Value := Extern.ReflectliteType.method fun t => do Rtype.noPackHeld "Comparable" t; pure (.bool (← typeInfo t).comparable)
theorem isComparable (w : World) : (cmpEntry #[.agg #[.pointer (some ⟨16, 266, none⟩)]]).run Tryz.prog w = .ok (.bool true) w := by kernel_rfl
theorem isMethodComparable (v : Value) (w : World) : (Go.method 396 178 v "Comparable").run Tryz.prog w = .ok (208, v) w := by kernel_rfl
theorem isComp : (Tryz.prog.info? 266).map (·.comparable) = some true := by kernel_rfl
theorem isSize : (Tryz.prog.info? 285).map (·.size) = some 1 := by kernel_rfl
theorem noIsE (v : Value) (xT : TypeId) (w : World) : (Instr.typeAssert (.iface 266 v) xT 180 true).run Tryz.prog w = .ok (.tuple #[.nilIface, .bool false]) w := run_typeAssert_lacksB Tryz.underlying180 (by kernel_rfl) (by kernel_rfl) v xT w
theorem noUnwrapE (v : Value) (xT : TypeId) (w : World) : (Instr.typeAssert (.iface 266 v) xT 183 true).run Tryz.prog w = .ok (.tuple #[.nilIface, .bool false]) w := run_typeAssert_lacksB Tryz.underlying183 (by kernel_rfl) (by kernel_rfl) v xT w
theorem noUnwrapsE (v : Value) (xT : TypeId) (w : World) : (Instr.typeAssert (.iface 266 v) xT 185 true).run Tryz.prog w = .ok (.tuple #[.nilIface, .bool false]) w := run_typeAssert_lacksB Tryz.underlying185 (by kernel_rfl) (by kernel_rfl) v xT w
theorem noIsW (v : Value) (xT : TypeId) (w : World) : (Instr.typeAssert (.iface 58 v) xT 180 true).run Tryz.prog w = .ok (.tuple #[.nilIface, .bool false]) w := run_typeAssert_lacksB Tryz.underlying180 (by kernel_rfl) (by kernel_rfl) v xT w
theorem hasUnwrapW (v : Value) (xT : TypeId) (w : World) : (Instr.typeAssert (.iface 58 v) xT 183 true).run Tryz.prog w = .ok (.tuple #[.iface 58 v, .bool true]) w := run_typeAssert_hasB Tryz.underlying183 (by kernel_rfl) v xT w
theorem methodUnwrap (v : Value) (w : World) : (Go.method 396 58 v "Unwrap").run Tryz.prog w = .ok (196, v) w := by kernel_rfl
theorem unwrap (x : Value) (b : Addr) (w : World) (hg : w.cell? ⟨0, 0, none⟩ = some (.iface 266 (.pointer (some b)))) : Calls Tryz.prog 196 #[.agg #[x]] w fun e w' => e = .returned (.iface 266 (.pointer (some b))) ∧ w.alloc (.cells #[x] 58) = w' := by
 have hlt := World.block_lt_of_cell? w _ hg
 go_enter Tryz.func196, Tryz.ntmps196
 go_wp2
 go_ret
 exact ⟨rfl, rfl⟩
set_option maxRecDepth 100000 in
set_option maxHeartbeats 4000000 in
theorem is_same (x : Value) (b : Addr) (w : World) (hg : w.cell? ⟨0, 0, none⟩ = some (.iface 266 (.pointer (some b)))) :
  Calls Tryz.prog 61 #[.iface 58 (.agg #[x]), .iface 266 (.pointer (some b))] w fun e w' => e = .returned (.bool true) ∧ w.alloc (.cells #[x] 58) = w' := by
 obtain ⟨i, hi, hcmp⟩ := Option.map_eq_some_iff.1 isComp
 obtain ⟨j, hj, hjs⟩ := Option.map_eq_some_iff.1 isSize
 have h8 := @run_callFunc_extern Tryz.prog 87 _ Extern.ReflectliteType.typeOf Tryz.func87 (by kernel_rfl) (by kernel_rfl) (by kernel_rfl) (by kernel_rfl)
 have h32 := @run_callFunc_extern Tryz.prog 208 _ cmpEntry Tryz.func208 (by kernel_rfl) (by kernel_rfl) (by kernel_rfl) (by kernel_rfl)
 have tT := isTypeOf
 have cT := isComparable
 have mR := isMethodComparable
 have nE := noIsE
 have uE := noUnwrapE
 have vE := noUnwrapsE
 have nW := noIsW
 have uW := hasUnwrapW
 have mU := methodUnwrap
 have heq := run_eql_iface_ptr_same (P := Tryz.prog) (w.alloc (.cells #[x] 58)) b Tryz.underlying61 Tryz.underlying266 hi hcmp hj
 have hty := run_eql_iface_types (P := Tryz.prog) 58 266 (.agg #[x]) (.pointer (some b)) Tryz.underlying61 (by decide) w
 clear hi hcmp hj hjs
 have hlt := World.block_lt_of_cell? w _ hg
 go_enter Tryz.func61, Tryz.ntmps61
 go_wp2
 refine wp_loop_rounds 2 ?_
 rw [rounds_succ]
 go_wp2
 rw [rounds_succ]
 go_wp2
 go_ret
 exact ⟨rfl, rfl⟩
set_option maxRecDepth 100000 in
theorem is_nil (b : Addr) (w : World) :
  Calls Tryz.prog 61 #[.nilIface, .iface 266 (.pointer (some b))] w fun e w' => e = .returned (.bool false) ∧ w = w' := by
 have hnl := fun w => run_eql_iface_nil_left (P := Tryz.prog) (w := w) 266 (.pointer (some b)) Tryz.underlying61
 go_enter Tryz.func61, Tryz.ntmps61
 go_wp2
 go_ret
 exact ⟨rfl, rfl⟩
end Go.Proofs.YtiafggoaedifdaaGreatDoor.IsFilt
/- filt.told: the number of an error of the package filt. Conditions: the package's variable holds its sentinel. -/
namespace Go.Proofs.YtiafggoaedifdaaGreatDoor.ToldFilt
open Go.RowKit
theorem told_nil (w : World) (p : Nat → Addr) (h : Globs w p) : Calls Tryz.prog 38 #[.nilIface] w fun e w' => e = .returned (.int .i64 0) ∧ Below w.heap.size w w' := by
 have k0 := h.cell 0 (by decide)
 have hlt := World.block_lt_of_cell? w _ k0
 clear h
 go_enter Tryz.func38, Tryz.ntmps38
 go_wp2_with fail
 have h1 := Aside.mk (below_new w (.cells #[.int .i64 0] 58))
 refine (IsFilt.is_nil _ _).mono ?_
 rintro e w0 ⟨rfl, rfl⟩
 go_wp2
 go_ret
 exact ⟨rfl, h1.out⟩
set_option maxHeartbeats 1000000 in
theorem told_wrong (x : Value) (hx : x.oneCell' = true) (w : World) (p : Nat → Addr) (h : Globs w p) :
  Calls Tryz.prog 38 #[.iface 58 (.agg #[x])] w fun e w' => e = .returned (.int .i64 80) ∧ Below w.heap.size w w' := by
 have k0 := h.cell 0 (by decide)
 have hlt := World.block_lt_of_cell? w _ k0
 go_enter Tryz.func38, Tryz.ntmps38
 go_wp2_with fail
 have h1 : Below w.heap.size w (w.alloc (.cells #[.int .i64 0] 58)) := below_new _ _
 have k1 := cell_below k0 h1
 refine (IsFilt.is_same x _ _ k1).mono ?_
 rintro e w1 ⟨rfl, hb⟩
 have h2 : Below w.heap.size w w1 := below_then h1 (by rw [← hb]; exact below_new _ _)
 have hc : w1.heap[w.heap.size]? = some (.cells #[.int .i64 0] 58 (0, 0)) := by rw [← hb]; exact blk_below (World.alloc_heap_new w _) (below_new _ _)
 have HC := Aside.mk hc
 have H2 := Aside.mk h2
 have H3 := Aside.mk (h.below h2).et
 have hlt1 : w.heap.size < w1.heap.size := (Array.getElem?_eq_some_iff.1 hc).1
 clear k0 k1 hb hlt h h1 h2 hc
 go_wp2_with fail
 refine (AsFilt.as_hit w.heap.size (.int .i64 0) x _ hx H3.out HC.out).mono ?_
 rintro e w0 ⟨rfl, hb, hc⟩
 have H0 := Aside.mk (H2.out.trans hb)
 clear hb hc
 go_wp2
 go_ret
 exact ⟨rfl, H0.out⟩
end Go.Proofs.YtiafggoaedifdaaGreatDoor.ToldFilt
/- filt, walked: errors told. Conditions: texts of at most 10^6 bytes. -/
namespace Go.Proofs.YtiafggoaedifdaaGreatDoor.Fi
open Go.RowKit Go.Shelf Go.Lib Fl
set_option linter.unusedVariables false
variable (p : Nat → Addr)
def fErr (i : Int) : V := .ifc 58 (.agg [.int .i64 i])
theorem told_nil_fn : Fn Tryz.prog (envX p) 38 [.v .nili] (.v (.int .i64 0)) :=
 Fn.of_plain (enter_of (by kernel_rfl)) rfl fun w L vs hE ha => by
  obtain ⟨v, rfl, h⟩ := one_arg ha
  rw [show v = .nilIface from h]
  exact ToldFilt.told_nil w p hE.gl
theorem told_wrong_fn (i : Int) : Fn Tryz.prog (envX p) 38 [.v (fErr i)] (.v (.int .i64 80)) :=
 Fn.of_plain (enter_of (by kernel_rfl)) rfl fun w L vs hE ha => by
  obtain ⟨v, rfl, h⟩ := one_arg ha
  obtain ⟨u, rfl, cs, rfl, h1⟩ := h
  obtain ⟨u, us, h2, _, h3, h4⟩ := h1
  have : cs = #[.int .i64 i] := by
   rw [show us = [] from h4, show u = _ from h3] at h2
   exact Array.toList_inj.1 h2
  rw [this]
  exact ToldFilt.told_wrong (.int .i64 i) rfl w p hE.gl
end Go.Proofs.YtiafggoaedifdaaGreatDoor.Fi
