/- Several texts, one behind the other. filt, walked: right filters printed. tlv, walked: how trees stand; which are ones; equality. Conditions: at most 10^8 in one. fber, plain: how many nodes trees of filters have, how many filters are in those of trees. No program. fber, plain: how large trees of filters are; what is told of trees, of texts; filters in nots. No program. size.first at one rule, size.(text).has. Conditions: the shape of memory that each theorem names. size.(*reader).read. size.(*reader).read, behind its first test. Conditions: the shape of memory that each theorem names. -/
import Derived.Test.YtiafggoaedifdaaGreatDoorP23
import Derived.Test.YtiafggoaedifdaaGreatDoorP04
import Derived.Test.YtiafggoaedifdaaGreatDoorP22
import Derived.Test.YtiafggoaedifdaaGreatDoorP05
import Derived.Test.YtiafggoaedifdaaGreatDoorP01
import Derived.Deep.RegionHeld3
import Derived.Deep.QuietTactic
import Derived.BigQuiet
import Derived.Outline
/- filt, walked: right filters printed. -/
namespace Go.Proofs.YtiafggoaedifdaaGreatDoor.Fi
open Go.RowKit Go.Shelf Go.Lib Fl
set_option linter.unusedVariables false
def lb : Nat → Nat
 | 0 => 0
 | m + 1 => 2000 + 8 * lb m
theorem short_len {s : ByteArray} (h : shortB s = true) : s.size ≤ 60 := of_decide_eq_true h
theorem esc60 {s : ByteArray} (h : s.size ≤ 60) : (escF (bl s)).length ≤ 180 := by
 have := esc_len (bl s)
 rw [size_bl] at this
 omega
theorem flat_len (a : List ByteArray) (h : ∀ s ∈ a, s.size ≤ 60) : (a.flatMap fun s => escF (bl s) ++ [42]).length ≤ 181 * a.length := by
 induction a with
 | nil => exact Nat.le_refl _
 | cons s r ih =>
  rw [List.flatMap_cons, List.length_append, List.length_append, List.length_cons]
  have h1 := esc60 (h s (by simp))
  have h2 := ih fun s hs => h s (by simp [hs])
  simp only [List.length_cons, List.length_nil]
  omega
theorem one_short {k : Int} {n v : ByteArray} {a : List ByteArray} {f : ByteArray} {l : List Flt} (h : oneB (.mk k n v a f l) = true) : n.size ≤ 30 ∧ v.size ≤ 60 ∧ f.size ≤ 60 ∧ (∀ s ∈ a, s.size ≤ 60) ∧ a.length ≤ 4 ∧ l.length ≤ 8 ∧ 0 ≤ k ∧ k ≤ 8 := by
 have hnm : nameB (bl n) = true → n.size ≤ 30 := fun h => by
  unfold nameB at h
  rw [Bool.and_eq_true, size_bl] at h
  exact of_decide_eq_true h.1
 unfold oneB at h
 dsimp only at h
 unfold namedB bareB at h
 split at h
 ·simp only [Bool.and_eq_true, decide_eq_true_eq, List.isEmpty_iff] at h
  obtain ⟨h1, ⟨h2, h3, h4⟩, h5, h6, _⟩ := h
  subst h3
  refine ⟨by omega, by omega, by omega, by simp, by simp, h6, by omega, by omega⟩
 split at h
 ·simp only [Bool.and_eq_true, decide_eq_true_eq, List.isEmpty_iff] at h
  obtain ⟨⟨h1, h2, h3, h4, h5⟩, h6, h7, h8⟩ := h
  subst h2 h7
  refine ⟨hnm h1, by omega, by omega, by simp, by simp, by simp, by omega, by omega⟩
 split at h
 ·simp only [Bool.and_eq_true, decide_eq_true_eq, List.isEmpty_iff, List.all_eq_true] at h
  obtain ⟨⟨h1, h2, h3, h4, h5⟩, h6, h7, h8⟩ := h
  subst h2
  refine ⟨hnm h1, short_len h3, short_len h4, fun s hs => short_len (h5 s hs), h7, by simp, by omega, by omega⟩
 split at h
 ·simp only [Bool.and_eq_true, decide_eq_true_eq, List.isEmpty_iff] at h
  obtain ⟨⟨h1, h2, h3, h4, h5⟩, h6, h7⟩ := h
  subst h2 h6
  refine ⟨hnm h1, short_len h3, by omega, by simp, by simp, by simp, by omega, by omega⟩
 ·cases h
theorem mid_len {k : Int} {v : ByteArray} {a : List ByteArray} {f : ByteArray} (hv : v.size ≤ 60) (hf : f.size ≤ 60) (ha : ∀ s ∈ a, s.size ≤ 60) (hl : a.length ≤ 4) : (midB k v a f).length ≤ 1200 := by
 have h1 := esc60 hv
 have h2 := esc60 hf
 have h3 := flat_len (v :: a) (fun s hs => by rcases List.mem_cons.1 hs with rfl | hs; exact hv; exact ha s hs)
 have h4 : (signB k).length ≤ 2 := by
  unfold signB
  repeat (split; · decide)
  decide
 unfold midB
 split
 ·simp
 split
 ·rw [List.cons_append, List.length_cons, List.length_append]
  rw [List.length_cons] at h3
  omega
 ·rw [List.length_append]; omega
mutual
theorem pr_len : ∀ (d m : Nat) (f : Flt), d + m = 7 → rightF d f = true → (prF f).length ≤ lb m
 | d, 0, .mk k n v a f l, hd, h => by
  rw [rightF, Bool.and_eq_true] at h
  have := of_decide_eq_true h.1
  omega
 | d, m + 1, .mk k n v a f l, hd, h => by
  rw [rightF, Bool.and_eq_true, Bool.and_eq_true] at h
  obtain ⟨_, h1, h2⟩ := h
  obtain ⟨g1, g2, g3, g4, g5, g6, _⟩ := one_short h1
  have h3 := prs_len (d + 1) m l (by omega) h2
  have h4 := mid_len (k := k) g2 g3 g4 g5
  have h5 : l.length * lb m ≤ 8 * lb m := Nat.mul_le_mul_right _ g6
  rw [prF, lb]
  simp only [List.length_cons, List.length_append, List.length_nil, size_bl]
  omega
theorem prs_len : ∀ (d m : Nat) (l : List Flt), d + m = 7 → rightFs d l = true → (prFs l).length ≤ l.length * lb m
 | _, _, [], _, _ => Nat.zero_le _
 | d, m, x :: r, hd, h => by
  rw [rightFs, Bool.and_eq_true] at h
  have h1 := pr_len d m x hd h.1
  have h2 := prs_len d m r hd h.2
  rw [prFs, List.length_append, List.length_cons, Nat.succ_mul]
  omega
end
theorem pr_bound {d : Nat} {f : Flt} (hd : 1 ≤ d) (h : rightF d f = true) : (prF f).length ≤ 100000000 := by
 have hd6 : d ≤ 6 := (right_one h).1
 have hm : ∀ a b : Nat, a ≤ b → lb a ≤ lb b := by
  have hs : ∀ a : Nat, lb a ≤ lb (a + 1) := by
   intro a
   induction a with
   | zero => exact Nat.zero_le _
   | succ a ih => rw [lb, lb]; omega
  intro a b hab
  induction hab with
  | refl => exact Nat.le_refl _
  | step _ ih => exact Nat.le_trans ih (hs _)
 have h1 := pr_len d (7 - d) f (by omega) h
 have h2 := hm (7 - d) 6 (by omega)
 have h3 : lb 6 ≤ 100000000 := by decide
 omega
theorem pre_len {l r x : List UInt8} (h : l ++ r = x) (hx : x.length ≤ 100000000) : l.length ≤ 1000000000 := by
 have := congrArg List.length h
 rw [List.length_append] at this
 omega
theorem cat_bt (a b : List UInt8) : bt' a ++ bt' b = bt' (a ++ b) := by
 apply ByteArray.ext
 apply Array.toList_inj.1
 show (bt' a ++ bt' b).data.toList = (a ++ b).toArray.toList
 simp [bt']
theorem prFs_take (l : List Flt) (i : Nat) (h : i < l.length) : prFs (l.take (i + 1)) = prFs (l.take i) ++ prF l[i] := by
 have happ : ∀ a b : List Flt, prFs (a ++ b) = prFs a ++ prFs b := by
  intro a
  induction a with
  | nil => intro b; rfl
  | cons x r ih => intro b; rw [List.cons_append, prFs, prFs, ih, List.append_assoc]
 rw [List.take_succ_eq_append_getElem h, happ]
 show _ ++ (prF l[i] ++ []) = _
 rw [List.append_nil]
theorem prFs_split (l : List Flt) (i : Nat) : prFs (l.take i) ++ prFs (l.drop i) = prFs l := by
 have happ : ∀ a b : List Flt, prFs (a ++ b) = prFs a ++ prFs b := by
  intro a
  induction a with
  | nil => intro b; rfl
  | cons x r ih => intro b; rw [List.cons_append, prFs, prFs, ih, List.append_assoc]
 rw [← happ, List.take_append_drop]
end Go.Proofs.YtiafggoaedifdaaGreatDoor.Fi
/- tlv, walked: how trees stand; which are ones; equality. Conditions: at most 10^8 in one. -/
namespace Go.Proofs.YtiafggoaedifdaaGreatDoor.Tl
open Go.RowKit Go.Shelf Go.Lib
open Fl (bl bt' bl_bt bl_of size_bl)
set_option linter.unusedVariables false
mutual
def cN : Nd → List V
 | .mk t d k => [.int .i64 t, .str d, .sl (cNs k)]
def cNs : List Nd → List (List V)
 | [] => []
 | x :: r => cN x :: cNs r
end
theorem cNs_map : ∀ l : List Nd, cNs l = l.map cN
 | [] => rfl
 | x :: r => by rw [cNs, cNs_map r]; rfl
def cM (x : Nd) : List V := [.int .i64 x.tag, .str x.data, .sl (x.kids.map cN)]
theorem cM_eq : ∀ x : Nd, cN x = cM x
 | .mk t d k => by rw [cN, cNs_map]; rfl
theorem st_idxN {xs : List Nd} {i : Nat} {K : List V → Prop} (h : i < xs.length) (hK : K (cM (xs[i]'h))) : ∃ c, (0 : Int) ≤ (i : Nat) ∧ (xs.map cN)[((i : Nat) : Int).toNat]? = some c ∧ c.length = 3 ∧ K c :=
 ⟨_, by omega, by rw [Int.toNat_natCast, List.getElem?_map, List.getElem?_eq_getElem h, Option.map_some, cM_eq], rfl, hK⟩
theorem cN_len (x : Nd) : (cN x).length = 3 := by cases x; rfl
mutual
def midN : Nd → Prop
 | .mk t d k => k.length ≤ 100000000 ∧ midNs k
def midNs : List Nd → Prop
 | [] => True
 | x :: r => midN x ∧ midNs r
end
theorem midNs_mem : ∀ {l : List Nd}, midNs l → ∀ x ∈ l, midN x
 | [], _, x, hx => by cases hx
 | y :: r, h, x, hx => by
  rcases List.mem_cons.1 hx with rfl | hx
  ·exact h.1
  ·exact midNs_mem h.2 x hx
theorem midN_at {x : Nd} (h : midN x) : x.kids.length ≤ 100000000 ∧ midNs x.kids := by cases x; exact h
end Go.Proofs.YtiafggoaedifdaaGreatDoor.Tl
/- fber, plain: how many nodes trees of filters have, how many filters are in those of trees. No program. -/
namespace Go.Proofs.YtiafggoaedifdaaGreatDoor.Fb
open Go.Lib Fl Tl
open Fi (midF midFs)
set_option linter.unusedVariables false
def cb : Nat → Nat
 | 0 => 0
 | m + 1 => 1 + 8 * cb m
mutual
theorem cnt8 : ∀ (d m : Nat) (f : Flt), d + m = 7 → rightF d f = true → (preF d f).length ≤ cb m
 | d, 0, .mk k n v a f l, hd, h => by
  have := (right_one h).1
  omega
 | d, m + 1, .mk k n v a f l, hd, h => by
  obtain ⟨_, h1, h2⟩ := right_one h
  obtain ⟨g1, g2, g3, g4, g5, g6, _⟩ := Fi.one_short h1
  have h3 := cnts8 (d + 1) m l (by omega) h2
  have h5 : l.length * cb m ≤ 8 * cb m := Nat.mul_le_mul_right _ g6
  rw [preF, List.length_cons, cb]
  omega
theorem cnts8 : ∀ (d m : Nat) (l : List Flt), d + m = 7 → rightFs d l = true → (preFs d l).length ≤ l.length * cb m
 | _, _, [], _, _ => Nat.zero_le _
 | d, m, x :: r, hd, h => by
  rw [rightFs, Bool.and_eq_true] at h
  have h1 := cnt8 d m x hd h.1
  have h2 := cnts8 d m r hd h.2
  rw [preFs, List.length_append, List.length_cons, Nat.succ_mul]
  omega
end
theorem pcs_len {v : ByteArray} {a : List ByteArray} {f : ByteArray} : (pcsN v a f).length ≤ a.length + 2 := by
 unfold pcsN
 rw [List.length_append, List.length_append, List.length_map]
 split <;> split <;> simp <;> omega
theorem leaf_pre (d : Nat) (t : Int) (x : ByteArray) : preN d (leafN t x) = [(d, leafN t x)] := rfl
theorem leaves_pre (d : Nat) : ∀ l : List Nd, (∀ x ∈ l, x.kids = []) → (preNs d l).length = l.length
 | [], _ => rfl
 | .mk t x k :: r, h => by
  have h1 : k = [] := h _ List.mem_cons_self
  subst h1
  rw [preNs, List.length_append, leaves_pre d r (fun y hy => h y (List.mem_cons_of_mem _ hy)), preN, preNs, List.length_cons, List.length_cons, List.length_nil]
  omega
theorem pcs_leaf {v : ByteArray} {a : List ByteArray} {f : ByteArray} : ∀ x ∈ pcsN v a f, x.kids = [] := by
 intro x hx
 unfold pcsN at hx
 rcases List.mem_append.1 hx with hx | hx
 ·split at hx
  ·cases hx
  ·rw [List.mem_singleton.1 hx]; rfl
 ·rcases List.mem_append.1 hx with hx | hx
  ·obtain ⟨y, _, rfl⟩ := List.mem_map.1 hx; rfl
  ·split at hx
   ·cases hx
   ·rw [List.mem_singleton.1 hx]; rfl
mutual
theorem tree_pre : ∀ (d e : Nat) (f : Flt), rightF d f = true → (preN e (treeF f)).length ≤ 9 * (preF d f).length
 | d, e, .mk k n v a f l, h => by
  obtain ⟨_, h1, h2⟩ := right_one h
  rw [preF, List.length_cons, treeF]
  obtain ⟨g1, g2, g3, g4, g5, g6, _⟩ := Fi.one_short h1
  split
  ·rw [leaf_pre, List.length_singleton]; omega
  ·split
   ·simp only [preN, preNs, leaf_pre, List.length_cons, List.length_append, List.length_nil, List.append_nil, leaves_pre _ _ pcs_leaf]
    have := pcs_len (v := v) (a := a) (f := f)
    have ha : a.length ≤ 4 := g5
    omega
   ·split
    ·rw [preN, preNs, leaf_pre, preNs, leaf_pre, preNs, List.append_nil, List.length_cons, List.length_append, List.length_singleton, List.length_singleton]
     omega
    ·rw [preN, List.length_cons]
     have := trees_pre (d + 1) (e + 1) l h2
     omega
theorem trees_pre : ∀ (d e : Nat) (l : List Flt), rightFs d l = true → (preNs e (treeFs l)).length ≤ 9 * (preFs d l).length
 | _, _, [], _ => Nat.zero_le _
 | d, e, x :: r, h => by
  rw [rightFs, Bool.and_eq_true] at h
  have h1 := tree_pre d e x h.1
  have h2 := trees_pre d e r h.2
  rw [treeFs, preNs, preFs, List.length_append, List.length_append]
  omega
end
theorem tree_bound {f : Flt} (h : rightF 1 f = true) : (preN 1 (treeF f)).length ≤ 400000 := by
 have h1 := tree_pre 1 1 f h
 have h2 := cnt8 1 6 f rfl h
 have h3 : cb 6 = 37449 := rfl
 omega
mutual
def kidLe (B : Nat) : Nd → Prop
 | .mk _ d k => d.size ≤ 100000000 ∧ k.length ≤ B ∧ kidLes B k
def kidLes (B : Nat) : List Nd → Prop
 | [] => True
 | x :: r => kidLe B x ∧ kidLes B r
end
theorem kidLe_at {B : Nat} {n : Nd} (h : kidLe B n) : n.data.size ≤ 100000000 ∧ n.kids.length ≤ B ∧ kidLes B n.kids := by cases n; exact h
theorem kidLes_mem {B : Nat} : ∀ {l : List Nd}, kidLes B l → ∀ x ∈ l, kidLe B x
 | [], _, x, hx => by cases hx
 | y :: r, h, x, hx => by
  rcases List.mem_cons.1 hx with rfl | hx
  ·exact h.1
  ·exact kidLes_mem h.2 x hx
mutual
theorem kidLe_mid {B : Nat} (hB : B ≤ 100000000) : ∀ {n : Nd}, kidLe B n → midN n
 | .mk t d k, h => ⟨by have := h.2.1; omega, kidLes_mid hB h.2.2⟩
theorem kidLes_mid {B : Nat} (hB : B ≤ 100000000) : ∀ {l : List Nd}, kidLes B l → midNs l
 | [], _ => trivial
 | x :: r, h => ⟨kidLe_mid hB h.1, kidLes_mid hB h.2⟩
end
theorem allL_len {α β : Type} {g : α → Option β} : ∀ {l : List α} {ys : List β}, allL g l = some ys → ys.length = l.length
 | [], ys, h => by rw [allL] at h; cases h; rfl
 | x :: r, ys, h => by
  rw [allL] at h
  cases hx : g x with
  | none => rw [hx] at h; cases h
  | some y =>
   rw [hx] at h
   dsimp only at h
   cases hr : allL g r with
   | none => rw [hr] at h; cases h
   | some zs =>
    rw [hr] at h
    cases h
    rw [List.length_cons, List.length_cons, allL_len hr]
theorem putsN_le {M : Nat} : ∀ (l : List Nd) (s s' : ByteArray × List ByteArray × ByteArray), (∀ x ∈ l, x.data.size ≤ M) → putsN s l = some s' → s.1.size ≤ M → s.2.2.size ≤ M → s'.1.size ≤ M ∧ s'.2.2.size ≤ M ∧ s'.2.1.length ≤ s.2.1.length + l.length
 | [], s, s', _, h, h1, h2 => by
  rw [putsN] at h
  cases h
  exact ⟨h1, h2, by simp⟩
 | x :: r, s, s', hx, h, h1, h2 => by
  rw [putsN] at h
  cases hp : putN s x with
  | none => rw [hp] at h; cases h
  | some s1 =>
   rw [hp] at h
   dsimp only at h
   have hd := hx x List.mem_cons_self
   have hs1 : s1.1.size ≤ M ∧ s1.2.2.size ≤ M ∧ s1.2.1.length ≤ s.2.1.length + 1 := by
    unfold putN at hp
    split at hp
    ·cases hp
    ·split at hp
     ·split at hp
      ·cases hp; exact ⟨hd, h2, by simp⟩
      ·cases hp
     ·split at hp
      ·split at hp
       ·cases hp; exact ⟨h1, h2, by simp⟩
       ·cases hp
      ·split at hp
       ·split at hp
        ·cases hp; exact ⟨h1, hd, by simp⟩
        ·cases hp
       ·cases hp
   obtain ⟨g1, g2, g3⟩ := hs1
   obtain ⟨k1, k2, k3⟩ := putsN_le r s1 s' (fun y hy => hx y (List.mem_cons_of_mem _ hy)) h g1 g2
   exact ⟨k1, k2, by rw [List.length_cons]; omega⟩
def rb (B : Nat) : Nat → Nat
 | 0 => 0
 | m + 1 => 1 + B * rb B m
def readOk (B m : Nat) (n : Nd) (f : Flt) : Prop := midF f ∧ ∀ d, (preF d f).length ≤ rb B m ∧ (preF d f).length ≤ (preN 1 n).length
theorem reads_ok {B m : Nat} (ih : ∀ n f, kidLe B n → readF m n = some f → readOk B m n f) : ∀ (l : List Nd) (fs : List Flt), kidLes B l → allL (readF m) l = some fs → midFs fs ∧ ∀ d, (preFs d fs).length ≤ l.length * rb B m ∧ (preFs d fs).length ≤ (preNs 1 l).length
 | [], fs, _, h => by
  rw [allL] at h
  cases h
  exact ⟨trivial, fun d => ⟨Nat.zero_le _, Nat.zero_le _⟩⟩
 | x :: r, fs, hk, h => by
  rw [allL] at h
  cases hx : readF m x with
  | none => rw [hx] at h; cases h
  | some y =>
   rw [hx] at h
   dsimp only at h
   cases hr : allL (readF m) r with
   | none => rw [hr] at h; cases h
   | some zs =>
    rw [hr] at h
    cases h
    obtain ⟨a1, a2⟩ := ih x y hk.1 hx
    obtain ⟨b1, b2⟩ := reads_ok ih r zs hk.2 hr
    refine ⟨⟨a1, b1⟩, fun d => ?_⟩
    have c1 := a2 d
    have c2 := b2 d
    rw [preFs, preNs, List.length_append, List.length_append, List.length_cons, Nat.succ_mul]
    omega
theorem read_ok {B : Nat} (hB : B ≤ 100000000) : ∀ (m : Nat) (n : Nd) (f : Flt), kidLe B n → readF m n = some f → readOk B m n f
 | 0, n, f, _, h => by rw [readF] at h; cases h
 | m + 1, n, f, hk, h => by
  obtain ⟨k1, k2, k3⟩ := kidLe_at hk
  have hp := Tl.pre_pos 1 n
  have one : ∀ g : Flt, g.l = [] → ∀ d, (preF d g).length ≤ rb B (m + 1) ∧ (preF d g).length ≤ (preN 1 n).length := fun g hg d => by
   cases g with
   | mk k0 n0 v0 a0 f0 l0 =>
    rw [show l0 = [] from hg, preF, preFs, List.length_singleton, rb]
    exact ⟨by omega, hp⟩
  rw [readF] at h
  split at h
  ·cases h
  ·rename_i k hko
   split at h
   ·cases h
    exact ⟨⟨k1, by decide, by decide, by decide, by decide, trivial⟩, one _ rfl⟩
   ·split at h
    ·cases hr : allL (readF m) n.kids with
     | none => rw [hr] at h; cases h
     | some l =>
      rw [hr] at h
      cases h
      obtain ⟨b1, b2⟩ := reads_ok (fun n f => read_ok hB m n f) n.kids l k3 hr
      have hl := allL_len hr
      refine ⟨⟨by decide, by decide, by decide, by decide, by omega, b1⟩, fun d => ?_⟩
      have c2 := b2 (d + 1)
      have c3 : n.kids.length * rb B m ≤ B * rb B m := Nat.mul_le_mul_right _ k2
      have hn : (preN 1 n).length = 1 + (preNs 1 n.kids).length := by
       cases n with
       | mk t x k => rw [preN, List.length_cons, pres_depth (1 + 1) 1 k]; exact Nat.add_comm _ _
      rw [preF, List.length_cons, rb, hn]
      omega
    ·split at h
     ·rename_i x y hxy
      rw [hxy] at k3
      obtain ⟨x1, x2, x3⟩ := kidLe_at (kidLes_mem k3 x (by simp))
      obtain ⟨y1, y2, y3⟩ := kidLe_at (kidLes_mem k3 y (by simp))
      split at h
      ·split at h
       ·cases hq : putsN (bt' [], [], bt' []) y.kids with
        | none => rw [hq] at h; cases h
        | some s =>
         rw [hq] at h
         cases h
         obtain ⟨p1, p2, p3⟩ := putsN_le (M := 100000000) y.kids _ _ (fun z hz => (kidLe_at (kidLes_mem y3 z hz)).1) hq (by decide) (by decide)
         refine ⟨⟨x1, p1, p2, ?_, by decide, trivial⟩, one _ rfl⟩
         have : ([] : List ByteArray).length = 0 := rfl
         dsimp only at p3
         omega
       ·cases h
        exact ⟨⟨x1, y1, by decide, by decide, by decide, trivial⟩, one _ rfl⟩
      ·cases h
     ·cases h
end Go.Proofs.YtiafggoaedifdaaGreatDoor.Fb
/- fber, plain: how large trees of filters are; what is told of trees, of texts; filters in nots. No program. -/
namespace Go.Proofs.YtiafggoaedifdaaGreatDoor.Fb
open Go.Lib Fl Tl
open Fi (midF midFs)
set_option linter.unusedVariables false
theorem leaf_kid {B : Nat} {t : Int} {d : ByteArray} (h : d.size ≤ 100000000) : kidLe B (leafN t d) := ⟨h, Nat.zero_le _, trivial⟩
theorem kidLes_app {B : Nat} : ∀ {l m : List Nd}, kidLes B l → kidLes B m → kidLes B (l ++ m)
 | [], m, _, h => h
 | x :: r, m, h, k => ⟨h.1, kidLes_app h.2 k⟩
theorem leaves_kid {B : Nat} {t : Int} : ∀ a : List ByteArray, (∀ s ∈ a, s.size ≤ 100000000) → kidLes B (a.map (leafN t))
 | [], _ => trivial
 | s :: r, h => ⟨leaf_kid (h s (by simp)), leaves_kid r fun x hx => h x (by simp [hx])⟩
theorem pcs_kids {B : Nat} {v : ByteArray} {a : List ByteArray} {f : ByteArray} (hv : v.size ≤ 100000000) (ha : ∀ s ∈ a, s.size ≤ 100000000) (hf : f.size ≤ 100000000) : kidLes B (pcsN v a f) := by
 unfold pcsN
 refine kidLes_app ?_ (kidLes_app (leaves_kid a ha) ?_)
 ·split
  ·trivial
  ·exact ⟨leaf_kid hv, trivial⟩
 ·split
  ·trivial
  ·exact ⟨leaf_kid hf, trivial⟩
mutual
theorem tree_kid : ∀ (d : Nat) (f : Flt), rightF d f = true → kidLe 60 (treeF f)
 | d, .mk k n v a f l, h => by
  obtain ⟨_, h1, h2⟩ := right_one h
  obtain ⟨g1, g2, g3, g4, g5, g6, _⟩ := Fi.one_short h1
  rw [treeF]
  split
  ·exact leaf_kid (by omega)
  ·split
   ·have hp := pcs_len (v := v) (a := a) (f := f)
    exact ⟨by decide, by simp, leaf_kid (by omega), ⟨by decide, by omega, pcs_kids (by omega) (fun s hs => by have := g4 s hs; omega) (by omega)⟩, trivial⟩
   ·split
    ·exact ⟨by decide, by simp, leaf_kid (by omega), leaf_kid (by omega), trivial⟩
    ·exact ⟨by decide, by rw [treeFs_map, List.length_map]; omega, trees_kid (d + 1) l h2⟩
theorem trees_kid : ∀ (d : Nat) (l : List Flt), rightFs d l = true → kidLes 60 (treeFs l)
 | _, [], _ => trivial
 | d, x :: r, h => by
  rw [rightFs, Bool.and_eq_true] at h
  exact ⟨tree_kid d x h.1, trees_kid d r h.2⟩
end
theorem len_pres : ∀ (d : Nat) (l : List Nd), l.length ≤ (preNs d l).length
 | _, [] => Nat.zero_le _
 | d, x :: r => by
  rw [preNs, List.length_append, List.length_cons]
  have h1 := Tl.pre_pos d x
  have h2 := len_pres d r
  omega
mutual
theorem pre_kid {B : Nat} : ∀ (d : Nat) (n : Nd), (preN d n).all okN = true → (preN d n).length ≤ B → kidLe B n
 | d, .mk t x k, ha, hl => by
  rw [preN, List.all_cons, Bool.and_eq_true] at ha
  rw [preN, List.length_cons] at hl
  obtain ⟨h0, hk⟩ := ha
  unfold okN at h0
  simp only [Bool.and_eq_true, decide_eq_true_eq] at h0
  have h1 : x.size ≤ 4000 := h0.2.2
  have h2 := len_pres (d + 1) k
  exact ⟨by omega, by omega, pres_kid (d + 1) k hk (by omega)⟩
theorem pres_kid {B : Nat} : ∀ (d : Nat) (l : List Nd), (preNs d l).all okN = true → (preNs d l).length ≤ B → kidLes B l
 | _, [], _, _ => trivial
 | d, x :: r, ha, hl => by
  rw [preNs, List.all_append, Bool.and_eq_true] at ha
  rw [preNs, List.length_append] at hl
  exact ⟨pre_kid d x ha.1 (by omega), pres_kid d r ha.2 (by omega)⟩
end
theorem right_shape {n : Nd} (h : rightN n = true) : (preN 1 n).length ≤ 200 ∧ (preN 1 n).all okN = true ∧ (layN n).length ≤ 4000 := by
 unfold rightN shapedN at h
 simp only [Bool.and_eq_true, decide_eq_true_eq] at h
 exact ⟨h.1.1, h.1.2, h.2⟩
theorem right_kid {n : Nd} (h : rightN n = true) : kidLe 200 n := by
 obtain ⟨h1, h2, _⟩ := right_shape h
 exact pre_kid 1 n h2 h1
structure Small (n : Nd) : Prop where
 kid : kidLe 200 n
 cnt : ∀ f, readF 6 n = some f → (preF 1 f).length ≤ 900000000
mutual
theorem kidLe_up {B C : Nat} (h : B ≤ C) : ∀ n : Nd, kidLe B n → kidLe C n
 | .mk t d k, hk => ⟨hk.1, Nat.le_trans hk.2.1 h, kidLes_up h k hk.2.2⟩
theorem kidLes_up {B C : Nat} (h : B ≤ C) : ∀ l : List Nd, kidLes B l → kidLes C l
 | [], _ => trivial
 | x :: r, hk => ⟨kidLe_up h x hk.1, kidLes_up h r hk.2⟩
end
theorem small_60 {n : Nd} (h : kidLe 60 n) : Small n := ⟨kidLe_up (by decide) n h, fun f hf => Nat.le_trans ((read_ok (by decide) 6 n f h hf).2 1).1 (by decide)⟩
theorem small_right {n : Nd} (h : rightN n = true) : Small n := ⟨right_kid h, fun f hf => by
 have h1 := ((read_ok (by decide) 6 n f (right_kid h) hf).2 1).2
 have h2 := (right_shape h).1
 omega⟩
theorem small_tree {f : Flt} (h : rightF 1 f = true) : Small (treeF f) := small_60 (tree_kid 1 f h)
theorem small_mid {n : Nd} (h : Small n) : midN n := kidLe_mid (by decide) h.kid
theorem read_mid {n : Nd} (h : Small n) {f : Flt} (hf : readF 6 n = some f) : midF f := (read_ok (by decide) 6 n f h.kid hf).1
def nd0 : Nd := .mk 0 (bt' []) []
theorem small_nd0 : Small nd0 := small_60 ⟨by decide, by decide, trivial⟩
theorem whole_nd0 : wholeF nd0 = none := rfl
theorem wholeN_nil : wholeN [] = none := by decide +kernel
def nots : Nat → Flt
 | 0 => .mk 7 (bt' [97]) (bt' []) [] (bt' []) []
 | n + 1 => .mk 2 (bt' []) (bt' []) [] (bt' []) [nots n]
theorem nots_right : ∀ n, n < 10 → rightF 1 (nots n) = decide (n ≤ 5) := by decide +kernel
theorem nots_rightN : ∀ n, n < 6 → rightN (treeF (nots n)) = true := by decide +kernel
theorem nots_len : ∀ n, n < 6 → (layN (treeF (nots n))).length = 3 + 2 * n := by decide +kernel
theorem nots_cnt : ∀ n, n < 10 → (preF 1 (nots n)).length ≤ 10 := by decide +kernel
theorem nots_mid : ∀ n, midF (nots n)
 | 0 => ⟨by decide, by decide, by decide, by decide, by decide, trivial⟩
 | n + 1 => ⟨by decide, by decide, by decide, by decide, by simp, nots_mid n, trivial⟩
end Go.Proofs.YtiafggoaedifdaaGreatDoor.Fb
/- size.first at one rule, size.(text).has. Conditions: the shape of memory that each theorem names. -/
namespace Go.Proofs.YtiafggoaedifdaaGreatDoor.Size
open Go.RowKit
theorem has_yes (s : ByteArray) (a n : Int) (w : World) (h0 : 0 ≤ a) (h1 : a ≤ s.size) (hs : s.size ≤ maxLen) (h2 : n ≤ s.size - a) :
  Calls Tryz.prog 162 #[.agg #[.string s, .int .i64 a], .int .i64 n] w fun e w' => e = .returned (.bool true) ∧ Below w.heap.size w w' := by
 unfold maxLen at hs
 have h3 : decide (n ≤ s.size - a) = true := by simpa using h2
 go_enter Tryz.func162, Tryz.ntmps162
 go_wp2
 go_ret
 exact ⟨rfl, (Below.refl _ _).alloc (Nat.le_refl _) _⟩
theorem has_no (s : ByteArray) (a n : Int) (w : World) (h0 : 0 ≤ a) (h1 : a ≤ s.size) (hs : s.size ≤ maxLen) (h2 : s.size - a < n) :
  Calls Tryz.prog 162 #[.agg #[.string s, .int .i64 a], .int .i64 n] w fun e w' => e = .returned (.bool false) ∧ Below w.heap.size w w' := by
 unfold maxLen at hs
 have h3 : decide (n ≤ s.size - a) = false := by simpa using h2
 go_enter Tryz.func162, Tryz.ntmps162
 go_wp2
 go_ret
 exact ⟨rfl, (Below.refl _ _).alloc (Nat.le_refl _) _⟩
theorem first_no (n : Int) (u : Nat) (v : Value) (b : Nat) (w : World) (h0 : w.cell? ⟨b, 0, none⟩ = some (.bool false)) (h1 : w.cell? ⟨b, 1, none⟩ = some (.iface u v)) :
  Calls Tryz.prog 149 #[.int .i64 n, .slice (some ⟨b, 0, none⟩) 1 1] w fun e w' => e = .returned .nilIface ∧ Below w.heap.size w w' := by
 go_enter Tryz.func149, Tryz.ntmps149
 go_wp2
 refine wp_loop_rounds 2 ?_
 rw [rounds_succ]
 go_wp2
 rw [rounds_succ]
 go_wp2
 go_ret
 exact ⟨rfl, (Below.refl _ _).alloc (Nat.le_refl _) _⟩
theorem first_yes (n : Int) (u : Nat) (v : Value) (b : Nat) (w : World) (h0 : w.cell? ⟨b, 0, none⟩ = some (.bool true)) (h1 : w.cell? ⟨b, 1, none⟩ = some (.iface u v)) :
  Calls Tryz.prog 149 #[.int .i64 n, .slice (some ⟨b, 0, none⟩) 1 1] w fun e w' => e = .returned (.iface 222 (.agg #[.int .i64 n, .iface u v])) ∧ Below w.heap.size w w' := by
 go_enter Tryz.func149, Tryz.ntmps149
 go_wp2
 refine wp_loop_rounds 2 ?_
 rw [rounds_succ]
 go_wp2
 go_ret
 exact ⟨rfl, (Below.refl _ _).alloc (Nat.le_refl _) _⟩
end Go.Proofs.YtiafggoaedifdaaGreatDoor.Size
/- size.(*reader).read. -/
namespace Go.Proofs.YtiafggoaedifdaaGreatDoor.Size
open Go.RowKit
set_option maxHeartbeats 1000000 in
theorem read_end (s : ByteArray) (a : Int) (g : Nat) (w : World) (p : Nat → Addr) (hG : Globs w p) (h0 : 0 ≤ a) (h1 : s.size ≤ a) (h2 : a ≤ s.size) (hs : s.size ≤ maxLen)
  (hb : w.heap[g]? = some (.cells #[.string s, .int .i64 a, .int .i64 0] 237 (0, 0))) :
  Calls Tryz.prog 157 #[.pointer (some ⟨g, 0, none⟩)] w fun e w' => e = .returned (.iface 222 (.agg #[.int .i64 0, .iface 266 (.pointer (some (p 9)))])) ∧ Below w.heap.size w w' := by
 have c0 : w.cell? ⟨g, 0, none⟩ = some (.string s) := by simp [World.cell?, hb]
 have c1 : w.cell? ⟨g, 1, none⟩ = some (.int .i64 a) := by simp [World.cell?, hb]
 have c2 : w.cell? ⟨g, 2, none⟩ = some (.int .i64 0) := by simp [World.cell?, hb]
 have k0 := hG.cell 9 (by decide)
 have BR := bt_range s a
 have hB := bt_at s a
 have HB := Aside.mk hb
 have HM := Aside.mk hs
 unfold maxLen at hs
 clear hb
 go_enter Tryz.func157, Tryz.ntmps157
 go_wp2
 go_region_held3 (fun w' => w'.cell? ⟨g, 0, none⟩ = some (.string s) ∧ w'.cell? ⟨g, 1, none⟩ = some (.int .i64 a) ∧ w'.cell? ⟨g, 2, none⟩ = some (.int .i64 0) ∧ w'.cell? ⟨9, 0, none⟩ = some (.iface 266 (.pointer (some (p 9))))) (first | exact ⟨c0, c1, c2, k0⟩ | exact ⟨d0, d1, d2, dk⟩ | exact ⟨e0, e1, e2, ek⟩ | exact ⟨cell_below d0 (below_new _ _), cell_below d1 (below_new _ _), cell_below d2 (below_new _ _), cell_below dk (below_new _ _)⟩)
  (first
   | (go_at_call 162; refine (has_no s a 1 _ h0 (by omega) HM.out (by omega)).mono ?_; rintro e w1 ⟨rfl, hb⟩; have H1 := Aside.mk (below_then (below_drew w) hb); have d0 := cell_below c0 H1.out; have d1 := cell_below c1 H1.out; have d2 := cell_below c2 H1.out; have dk := cell_below k0 H1.out; clear hb)
   | (go_at_call 149; refine (first_yes 0 266 (.pointer (some (p 9))) _ _ ?_ ?_).mono ?_; exact cell_new _ _ _ _ 0 rfl; exact cell_new _ _ _ _ 1 rfl; rintro e w2 ⟨rfl, hb⟩; have H2 := Aside.mk (below_then (below_then H1.out (below_new _ _)) hb); have e0 := cell_below c0 H2.out; have e1 := cell_below c1 H2.out; have e2 := cell_below c2 H2.out; have ek := cell_below k0 H2.out; clear hb))
 clear c0 c1 c2 d0 d1 d2 dk
 go_wp2
 go_ret
 exact ⟨rfl, H2.out⟩
end Go.Proofs.YtiafggoaedifdaaGreatDoor.Size
/- size.(*reader).read, behind its first test. Conditions: the shape of memory that each theorem names. -/
namespace Go.Proofs.YtiafggoaedifdaaGreatDoor.Size
open Go.RowKit
set_option linter.unusedVariables false
set_option maxRecDepth 100000 in
set_option maxHeartbeats 2000000 in
theorem read_small (s : ByteArray) (a : Int) (g : Nat) (w : World) (p : Nat → Addr) (hG : Globs w p) (hF : GFree p g) (h0 : 0 ≤ a) (h1 : a < s.size) (h2 : bt s a < 128) (hs : s.size ≤ maxLen)
  (hb : w.heap[g]? = some (.cells #[.string s, .int .i64 a, .int .i64 0] 237 (0, 0))) :
  Calls Tryz.prog 157 #[.pointer (some ⟨g, 0, none⟩)] w fun e w' => e = .returned .nilIface ∧ w.grownBy w' (some g) ∧ w'.heap[g]? = some (.cells #[.string s, .int .i64 (a + 1), .int .i64 (bt s a)] 237 (0, 0)) := by
 have c0 := cel hb 0 rfl
 have c1 := cel hb 1 rfl
 have c2 := cel hb 2 rfl
 have k0 := hG.cell 9 (by decide)
 have k1 := hG.cell 10 (by decide)
 have BR := bt_range s a
 have hB := bt_at s a
 have HB := Aside.mk hb
 have HG := Aside.mk hG
 have HM := Aside.mk hs
 unfold maxLen at hs
 clear hb hG
 go_enter Tryz.func157, Tryz.ntmps157
 go_wp2
 go_region_held3 (fun w' => w'.cell? ⟨g, 0, none⟩ = some (.string s) ∧ w'.cell? ⟨g, 1, none⟩ = some (.int .i64 a) ∧ w'.cell? ⟨g, 2, none⟩ = some (.int .i64 0) ∧ w'.cell? ⟨9, 0, none⟩ = some (.iface 266 (.pointer (some (p 9))))) (first | exact ⟨c0, c1, c2, k0⟩ | exact ⟨d0, d1, d2, dk⟩ | exact ⟨e0, e1, e2, ek⟩ | exact ⟨cell_below d0 (below_new _ _), cell_below d1 (below_new _ _), cell_below d2 (below_new _ _), cell_below dk (below_new _ _)⟩)
  (first
   | (go_at_call 162; refine (has_yes s a 1 _ h0 (by omega) HM.out (by omega)).mono ?_; rintro e w1 ⟨rfl, hb⟩; have H1 := Aside.mk (below_then (below_drew w) hb); have d0 := cell_below c0 H1.out; have d1 := cell_below c1 H1.out; have d2 := cell_below c2 H1.out; have dk := cell_below k0 H1.out; clear hb)
   | (go_at_call 149; refine (first_no 0 266 (.pointer (some (p 9))) _ _ ?_ ?_).mono ?_; exact cell_new _ _ _ _ 0 rfl; exact cell_new _ _ _ _ 1 rfl; rintro e w2 ⟨rfl, hb⟩; have H2 := Aside.mk (below_then (below_then H1.out (below_new _ _)) hb); have e0 := cell_below c0 H2.out; have e1 := cell_below c1 H2.out; have e2 := cell_below c2 H2.out; have ek := cell_below k0 H2.out; clear hb))
 have ef := cell_below k1 H2.out
 have hh := blk_below HB.out H2.out
 have f1 := frz hh 1
 have f2 := frz hh 2
 have HH := Aside.mk hh
 clear hh c0 c1 c2 k0 k1
 go_wp2
 go_quiet (fail)
 go_wp2
 go_ret
 refine ⟨rfl, ?_, ?_⟩
 ·exact grown_trans (grown_trans (grown_of_below (below_then H2.out (below_drewN _ _)) _) (set_grown _ _ _ _)) (set_grown _ _ _ _)
 ·exact set_blk (set_blk (w := w2.drewN _) HH.out 1 _) 2 _
set_option maxRecDepth 100000 in
set_option maxHeartbeats 2000000 in
theorem read_form80 (s : ByteArray) (a : Int) (g : Nat) (w : World) (p : Nat → Addr) (hG : Globs w p) (hF : GFree p g) (h0 : 0 ≤ a) (h1 : a < s.size) (h2 : bt s a = 128) (hs : s.size ≤ maxLen)
  (hb : w.heap[g]? = some (.cells #[.string s, .int .i64 a, .int .i64 0] 237 (0, 0))) :
  Calls Tryz.prog 157 #[.pointer (some ⟨g, 0, none⟩)] w fun e w' => e = .returned (.iface 222 (.agg #[.int .i64 (bt s a), .iface 266 (.pointer (some (p 10)))])) ∧ w.grownBy w' (some g) := by
 have c0 := cel hb 0 rfl
 have c1 := cel hb 1 rfl
 have c2 := cel hb 2 rfl
 have k0 := hG.cell 9 (by decide)
 have k1 := hG.cell 10 (by decide)
 have BR := bt_range s a
 have hB := bt_at s a
 have HB := Aside.mk hb
 have HG := Aside.mk hG
 have HM := Aside.mk hs
 unfold maxLen at hs
 clear hb hG
 have q1 : decide (bt s a < 128) = false := by rw [h2]; rfl
 have q2 : (bt s a == 128) = true := by rw [h2]; rfl
 clear h2
 go_enter Tryz.func157, Tryz.ntmps157
 go_wp2
 go_region_held3 (fun w' => w'.cell? ⟨g, 0, none⟩ = some (.string s) ∧ w'.cell? ⟨g, 1, none⟩ = some (.int .i64 a) ∧ w'.cell? ⟨g, 2, none⟩ = some (.int .i64 0) ∧ w'.cell? ⟨9, 0, none⟩ = some (.iface 266 (.pointer (some (p 9))))) (first | exact ⟨c0, c1, c2, k0⟩ | exact ⟨d0, d1, d2, dk⟩ | exact ⟨e0, e1, e2, ek⟩ | exact ⟨cell_below d0 (below_new _ _), cell_below d1 (below_new _ _), cell_below d2 (below_new _ _), cell_below dk (below_new _ _)⟩)
  (first
   | (go_at_call 162; refine (has_yes s a 1 _ h0 (by omega) HM.out (by omega)).mono ?_; rintro e w1 ⟨rfl, hb⟩; have H1 := Aside.mk (below_then (below_drew w) hb); have d0 := cell_below c0 H1.out; have d1 := cell_below c1 H1.out; have d2 := cell_below c2 H1.out; have dk := cell_below k0 H1.out; clear hb)
   | (go_at_call 149; refine (first_no 0 266 (.pointer (some (p 9))) _ _ ?_ ?_).mono ?_; exact cell_new _ _ _ _ 0 rfl; exact cell_new _ _ _ _ 1 rfl; rintro e w2 ⟨rfl, hb⟩; have H2 := Aside.mk (below_then (below_then H1.out (below_new _ _)) hb); have e0 := cell_below c0 H2.out; have e1 := cell_below c1 H2.out; have e2 := cell_below c2 H2.out; have ek := cell_below k0 H2.out; clear hb))
 have ef := cell_below k1 H2.out
 have hh := blk_below HB.out H2.out
 have f1 := frz hh 1
 have f2 := frz hh 2
 have HH := Aside.mk hh
 clear hh c0 c1 c2 k0 k1
 go_wp2
 go_quiet (fail)
 go_wp2
 go_ret
 exact ⟨rfl, grown_trans (grown_of_below (below_then H2.out (below_drewN _ _)) _) (set_grown _ _ _ _)⟩
set_option maxRecDepth 100000 in
set_option maxHeartbeats 2000000 in
theorem read_form85 (s : ByteArray) (a : Int) (g : Nat) (w : World) (p : Nat → Addr) (hG : Globs w p) (hF : GFree p g) (h0 : 0 ≤ a) (h1 : a < s.size) (h2 : 132 < bt s a) (hs : s.size ≤ maxLen)
  (hb : w.heap[g]? = some (.cells #[.string s, .int .i64 a, .int .i64 0] 237 (0, 0))) :
  Calls Tryz.prog 157 #[.pointer (some ⟨g, 0, none⟩)] w fun e w' => e = .returned (.iface 222 (.agg #[.int .i64 (bt s a), .iface 266 (.pointer (some (p 10)))])) ∧ w.grownBy w' (some g) := by
 have c0 := cel hb 0 rfl
 have c1 := cel hb 1 rfl
 have c2 := cel hb 2 rfl
 have k0 := hG.cell 9 (by decide)
 have k1 := hG.cell 10 (by decide)
 have BR := bt_range s a
 have hB := bt_at s a
 have HB := Aside.mk hb
 have HG := Aside.mk hG
 have HM := Aside.mk hs
 unfold maxLen at hs
 clear hb hG
 have q2 : (bt s a == 128) = false := by simp; omega
 go_enter Tryz.func157, Tryz.ntmps157
 go_wp2
 go_region_held3 (fun w' => w'.cell? ⟨g, 0, none⟩ = some (.string s) ∧ w'.cell? ⟨g, 1, none⟩ = some (.int .i64 a) ∧ w'.cell? ⟨g, 2, none⟩ = some (.int .i64 0) ∧ w'.cell? ⟨9, 0, none⟩ = some (.iface 266 (.pointer (some (p 9))))) (first | exact ⟨c0, c1, c2, k0⟩ | exact ⟨d0, d1, d2, dk⟩ | exact ⟨e0, e1, e2, ek⟩ | exact ⟨cell_below d0 (below_new _ _), cell_below d1 (below_new _ _), cell_below d2 (below_new _ _), cell_below dk (below_new _ _)⟩)
  (first
   | (go_at_call 162; refine (has_yes s a 1 _ h0 (by omega) HM.out (by omega)).mono ?_; rintro e w1 ⟨rfl, hb⟩; have H1 := Aside.mk (below_then (below_drew w) hb); have d0 := cell_below c0 H1.out; have d1 := cell_below c1 H1.out; have d2 := cell_below c2 H1.out; have dk := cell_below k0 H1.out; clear hb)
   | (go_at_call 149; refine (first_no 0 266 (.pointer (some (p 9))) _ _ ?_ ?_).mono ?_; exact cell_new _ _ _ _ 0 rfl; exact cell_new _ _ _ _ 1 rfl; rintro e w2 ⟨rfl, hb⟩; have H2 := Aside.mk (below_then (below_then H1.out (below_new _ _)) hb); have e0 := cell_below c0 H2.out; have e1 := cell_below c1 H2.out; have e2 := cell_below c2 H2.out; have ek := cell_below k0 H2.out; clear hb))
 have ef := cell_below k1 H2.out
 have hh := blk_below HB.out H2.out
 have f1 := frz hh 1
 have f2 := frz hh 2
 have HH := Aside.mk hh
 clear hh c0 c1 c2 k0 k1
 go_wp2
 go_quiet (fail)
 go_wp2
 go_ret
 exact ⟨rfl, grown_trans (grown_of_below (below_then H2.out (below_drewN _ _)) _) (set_grown _ _ _ _)⟩
set_option maxRecDepth 100000 in
set_option maxHeartbeats 2000000 in
theorem read_short (s : ByteArray) (a : Int) (g : Nat) (w : World) (p : Nat → Addr) (hG : Globs w p) (hF : GFree p g) (h0 : 0 ≤ a) (h1 : a < s.size) (h2 : 128 < bt s a) (h3 : bt s a ≤ 132) (h4 : s.size < a + 1 + (bt s a - 128)) (hs : s.size ≤ maxLen)
  (hb : w.heap[g]? = some (.cells #[.string s, .int .i64 a, .int .i64 0] 237 (0, 0))) :
  Calls Tryz.prog 157 #[.pointer (some ⟨g, 0, none⟩)] w fun e w' => e = .returned (.iface 222 (.agg #[.int .i64 (bt s a - 128), .iface 266 (.pointer (some (p 9)))])) ∧ w.grownBy w' (some g) := by
 have c0 := cel hb 0 rfl
 have c1 := cel hb 1 rfl
 have c2 := cel hb 2 rfl
 have k0 := hG.cell 9 (by decide)
 have k1 := hG.cell 10 (by decide)
 have BR := bt_range s a
 have hB := bt_at s a
 have HB := Aside.mk hb
 have HG := Aside.mk hG
 have HM := Aside.mk hs
 unfold maxLen at hs
 clear hb hG
 have q2 : (bt s a == 128) = false := by simp; omega
 go_enter Tryz.func157, Tryz.ntmps157
 go_wp2
 go_region_held3 (fun w' => w'.cell? ⟨g, 0, none⟩ = some (.string s) ∧ w'.cell? ⟨g, 1, none⟩ = some (.int .i64 a) ∧ w'.cell? ⟨g, 2, none⟩ = some (.int .i64 0) ∧ w'.cell? ⟨9, 0, none⟩ = some (.iface 266 (.pointer (some (p 9))))) (first | exact ⟨c0, c1, c2, k0⟩ | exact ⟨d0, d1, d2, dk⟩ | exact ⟨e0, e1, e2, ek⟩ | exact ⟨cell_below d0 (below_new _ _), cell_below d1 (below_new _ _), cell_below d2 (below_new _ _), cell_below dk (below_new _ _)⟩)
  (first
   | (go_at_call 162; refine (has_yes s a 1 _ h0 (by omega) HM.out (by omega)).mono ?_; rintro e w1 ⟨rfl, hb⟩; have H1 := Aside.mk (below_then (below_drew w) hb); have d0 := cell_below c0 H1.out; have d1 := cell_below c1 H1.out; have d2 := cell_below c2 H1.out; have dk := cell_below k0 H1.out; clear hb)
   | (go_at_call 149; refine (first_no 0 266 (.pointer (some (p 9))) _ _ ?_ ?_).mono ?_; exact cell_new _ _ _ _ 0 rfl; exact cell_new _ _ _ _ 1 rfl; rintro e w2 ⟨rfl, hb⟩; have H2 := Aside.mk (below_then (below_then H1.out (below_new _ _)) hb); have e0 := cell_below c0 H2.out; have e1 := cell_below c1 H2.out; have e2 := cell_below c2 H2.out; have ek := cell_below k0 H2.out; clear hb))
 have ef := cell_below k1 H2.out
 have hh := blk_below HB.out H2.out
 have f1 := frz hh 1
 have f2 := frz hh 2
 have HH := Aside.mk hh
 clear hh c0 c1 c2 k0 k1
 go_wp2
 go_quiet (fail)
 go_wp2
 obtain ⟨w3, hw3⟩ : ∃ w3, w3 = (w2.drewN nq).setCell ⟨g, 1, none⟩ (.int .i64 (a + 1)) := ⟨_, rfl⟩
 have HG3 := Aside.mk ((Globs.below HG.out (below_then H2.out (below_drewN _ nq))).grown hF (set_grown (w2.drewN nq) g 1 (.int .i64 (a + 1))))
 have H3 := Aside.mk (grown_trans (grown_of_below (below_then H2.out (below_drewN _ nq)) (some g)) (set_grown (w2.drewN nq) g 1 (.int .i64 (a + 1))))
 have hh3 := set_blk (w := w2.drewN nq) HH.out 1 (.int .i64 (a + 1))
 rw [← hw3] at HG3 H3 hh3 ⊢
 clear hw3
 have c0 := cel hh3 0 rfl
 have c1 := cel hh3 1 rfl
 have c2 := cel hh3 2 rfl
 have k0 := HG3.out.cell 9 (by decide)
 have HH3 := Aside.mk hh3
 clear hh3 f1 f2 e0 e1 e2 ek ef
 go_region_held3 (fun w' => w'.cell? ⟨g, 0, none⟩ = some (.string s) ∧ w'.cell? ⟨g, 1, none⟩ = some (.int .i64 (a + 1)) ∧ w'.cell? ⟨9, 0, none⟩ = some (.iface 266 (.pointer (some (p 9))))) (first | exact ⟨c0, c1, k0⟩ | exact ⟨d0, d1, dk⟩ | exact ⟨e0, e1, ek⟩ | exact ⟨cell_below d0 (below_new _ _), cell_below d1 (below_new _ _), cell_below dk (below_new _ _)⟩)
  (first
   | (go_at_call 162; refine (has_no s (a + 1) (bt s a - 128) _ (by omega) (by omega) HM.out (by omega)).mono ?_; rintro e w4 ⟨rfl, hb⟩; have H4 := Aside.mk (below_then (below_drew w3) hb); have d0 := cell_below c0 H4.out; have d1 := cell_below c1 H4.out; have dk := cell_below k0 H4.out; clear hb)
   | (go_at_call 149; refine (first_yes (bt s a - 128) 266 (.pointer (some (p 9))) _ _ ?_ ?_).mono ?_; exact cell_new _ _ _ _ 0 rfl; exact cell_new _ _ _ _ 1 rfl; rintro e w5 ⟨rfl, hb⟩; have H5 := Aside.mk (below_then (below_then H4.out (below_new _ _)) hb); have e0 := cell_below c0 H5.out; have e1 := cell_below c1 H5.out; have ek := cell_below k0 H5.out; clear hb))
 clear c0 c1 c2 k0 e0 e1 ek
 go_wp2
 go_ret
 exact ⟨rfl, grown_trans H3.out (grown_of_below H5.out _)⟩
end Go.Proofs.YtiafggoaedifdaaGreatDoor.Size
