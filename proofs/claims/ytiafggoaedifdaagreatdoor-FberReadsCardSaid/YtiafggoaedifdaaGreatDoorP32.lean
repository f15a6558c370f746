/- Several texts, one behind the other. filt's laws: a filter cut to eight deep, of each one's lists the first ten, texts at sixty-one bytes; a text cut at five hundred. No conditions. The statements of latinerlaw09, walked: trees cut, texts cut; what they share. The statements FberBack, FberSets, FberApart, FberNots, FberReads of latinerlaw09, walked. Cards: what reads of a type is a value that stands in memory as the walks without memory tell it; structs and slices however deep, types that hold themselves. Whatever program. filt, cards: what reads of a filter's type is a filter. -/
import Derived.Test.YtiafggoaedifdaaGreatDoorP28
import Derived.Test.YtiafggoaedifdaaGreatDoorP31
import Derived.Test.YtiafggoaedifdaaGreatDoorP17
import Derived.ChangeArms
import Derived.Test.YtiafggoaedifdaaGreatDoorP19
/- filt's laws: a filter cut to eight deep, of each one's lists the first ten, texts at sixty-one bytes; a text cut at five hundred. No conditions. -/
namespace Go.Proofs.YtiafggoaedifdaaGreatDoor.Fi
open Go.RowKit Go.Shelf Go.Lib Fl
set_option linter.unusedVariables false
variable (p : Nat → Addr)
def cut61B (s : ByteArray) : ByteArray := s.extract 0 (min s.size 61)
def cutF : Nat → Flt → Flt
 | 0, .mk k n v a f _ => .mk k (cut61B n) (cut61B v) ((a.take 10).map cut61B) (cut61B f) []
 | d + 1, .mk k n v a f l => .mk k (cut61B n) (cut61B v) ((a.take 10).map cut61B) (cut61B f) ((l.take 10).map (cutF d))
def cutsF : Nat → Flt → List Flt
 | 0, _ => []
 | d + 1, f => (f.l.take 10).map (cutF d)
theorem cutF_eq : ∀ (d : Nat) (f : Flt), cutF d f = .mk f.kind (cut61B f.name) (cut61B f.value) ((f.any.take 10).map cut61B) (cut61B f.final) (cutsF d f)
 | 0, .mk k n v a f _ => rfl
 | d + 1, .mk k n v a f l => rfl
variable {X : En}
set_option maxHeartbeats 4000000 in
theorem cutAt_one (d : Nat) (f : Flt) (hd : d ≤ 100) (hrec : ∀ e, d = e + 1 → ∀ x : Flt, Fn Tryz.prog X 37 [.v (.agg (cG x)), .v (.int .i64 ((e + 1 : Nat) : Int))] (.v (.agg (cG (cutF e x))))) : Fn Tryz.prog X 37 [.v (.agg (cG f)), .v (.int .i64 ((d + 1 : Nat) : Int))] (.v (.agg (cG (cutF d f)))) := by
  refine fn_prog tabOk mixed Tryz.f37 Tryz.func37 (by kernel_rfl) (by kernel_rfl) ?_
  conv => whnf
  refine ⟨none, by kernel_rfl, ?_⟩; conv => whnf
  refine st_min 61 ?_
  conv => whnf
  refine st_cut 0 (min f.name.size 61) rfl rfl (by omega) (by omega) ?_
  conv => whnf
  refine st_min 61 ?_
  conv => whnf
  refine st_cut 0 (min f.value.size 61) rfl rfl (by omega) (by omega) ?_
  conv => whnf
  refine st_min 61 ?_
  conv => whnf
  refine st_cut 0 (min f.final.size 61) rfl rfl (by omega) (by omega) ?_
  conv => whnf
  refine ⟨Nat, fun i => ⟨90, [(1, .v (.int .i64 ((d + 1 : Nat) : Int))), (2, .ptr 2 0), (4, .ptr 4 0), (5, .ptr 5 0), (6, .v (.int .i64 (i : Nat)))], [(2, (cG f).map .v), (4, (cG (.mk 0 (bt' []) (bt' []) [] (bt' []) [])).map .v), (5, [.v (.int .i64 f.kind), .v (.str (cut61B f.name)), .v (.str (cut61B f.value)), .own 59 9 ((f.any.take i).map fun s => encS (cut61B s)), .v (.str (cut61B f.final)), .v .nils])], [(59, some 9)]⟩, fun i => i ≤ f.any.length ∧ i ≤ 10, fun i => f.any.length - i, ⟨0, [(59, none)], ⟨by omega, by omega⟩, ?_⟩, fun i ⟨hi, hi10⟩ => ?_⟩
  ·(focus ((repeat' first|exact trivial|exact rfl|exact .inl rfl|exact .inr ⟨rfl,rfl⟩|refine And.intro ?_ ?_);done))
  conv => whnf
  refine ⟨rfl, cmp_split (fun h => ?_) (fun h => ?_)⟩
  have hil : i < f.any.length := by rw [List.length_map] at h; omega
  conv => whnf
  refine ⟨rfl, cmp_split (fun h2 => ?_) (fun h2 => ?_)⟩
  ·conv => whnf
   refine ⟨none, by kernel_rfl, ?_⟩; conv => whnf
   refine st_idx hil rfl ?_
   conv => whnf
   refine st_idx hil rfl ?_
   conv => whnf
   refine st_min 61 ?_
   conv => whnf
   refine st_cut 0 (min f.any[i].size 61) rfl rfl (by omega) (by omega) ?_
   conv => whnf
   refine st_app (by simp; omega) (by simp [V.cells]) (map_take_succ (enc := fun s => encS (cut61B s)) hil) ?_
   conv => whnf
   refine ⟨rfl, st_succ (by omega) ?_⟩
   conv => whnf
   refine ⟨i + 1, [(59, some 59)], ⟨by omega, by omega⟩, by dsimp only; omega, ?_⟩
   (focus ((repeat' first|exact trivial|exact rfl|exact .inl rfl|exact .inr ⟨rfl,rfl⟩|refine And.intro ?_ ?_);done))
  all_goals
   have hany : ((f.any.take i).map fun s => encS (cut61B s)) = ((f.any.take 10).map cut61B).map encS := by
    rw [List.map_map]
    have : f.any.take i = f.any.take 10 := by
     rw [List.length_map] at h
     by_cases h10 : f.any.length ≤ i
     ·rw [List.take_of_length_le h10, List.take_of_length_le (by omega)]
     ·rw [show i = 10 by omega]
    rw [this]; rfl
   clear h
   conv => whnf
   rw [hany]
   refine ⟨Nat, fun j => ⟨90, [(1, .v (.int .i64 ((d + 1 : Nat) : Int))), (2, .ptr 2 0), (4, .ptr 4 0), (5, .ptr 5 0), (7, .v (.int .i64 (j : Nat)))], [(2, (cG f).map .v), (4, (cG (.mk 0 (bt' []) (bt' []) [] (bt' []) [])).map .v), (5, [.v (.int .i64 f.kind), .v (.str (cut61B f.name)), .v (.str (cut61B f.value)), .own 59 9 (((f.any.take 10).map cut61B).map encS), .v (.str (cut61B f.final)), .own 87 25 ((f.l.take j).map fun x => cG (cutF (d - 1) x))])], [(59, some 9), (87, some 25)]⟩, fun j => j ≤ f.l.length ∧ j ≤ 10 ∧ (d = 0 → j = 0), fun j => f.l.length - j, ⟨0, [(59, some 59), (87, none)], ⟨by omega, by omega, fun _ => rfl⟩, ?_⟩, fun j ⟨hj, hj10, hd0⟩ => ?_⟩
   ·(focus ((repeat' first|exact trivial|exact rfl|exact .inl rfl|exact .inr ⟨rfl,rfl⟩|refine And.intro ?_ ?_);done))
   conv => whnf
   refine ⟨rfl, cmp_split (fun h => ?_) (fun h => ?_)⟩
   have hjl : j < f.l.length := by rw [List.length_map] at h; omega
   conv => whnf
   refine ⟨rfl, cmp_split (fun h2 => ?_) (fun h2 => ?_)⟩
   conv => whnf
   refine ⟨rfl, cmp_split (fun h3 => ?_) (fun h3 => ?_)⟩
   ·conv => whnf
    refine ⟨none, by kernel_rfl, ?_⟩; conv => whnf
    refine st_idxF hjl ?_
    conv => whnf
    obtain ⟨e, rfl⟩ : ∃ e, d = e + 1 := ⟨d - 1, by omega⟩
    refine st_minus (e + 1 + 1) 1 (by omega) (by omega) ?_
    conv => whnf
    (refine st_call (hrec e rfl f.l[j]) ?_ rfl rfl ?_; (focus ((repeat' first|exact trivial|exact rfl|exact .inl rfl|exact .inr ⟨rfl,rfl⟩|refine And.intro ?_ ?_);done)); conv => whnf)
    refine st_app (by simp; omega) (by simp [V.cells]) (map_take_succ (enc := fun x => cG (cutF e x)) hjl) ?_
    conv => whnf
    refine ⟨rfl, st_succ (by omega) ?_⟩
    conv => whnf
    refine ⟨j + 1, [(59, some 59), (87, some 87)], ⟨by omega, by omega, fun h => by omega⟩, by dsimp only; omega, ?_⟩
    (focus ((repeat' first|exact trivial|exact rfl|exact .inl rfl|exact .inr ⟨rfl,rfl⟩|refine And.intro ?_ ?_);done))
   all_goals
    have hl : ((f.l.take j).map fun x => cG (cutF (d - 1) x)) = (cutsF d f).map cF := by
     rw [List.length_map] at h
     cases d with
     | zero => rw [hd0 rfl]; rfl
     | succ e =>
      show _ = ((f.l.take 10).map (cutF e)).map cF
      rw [List.map_map, show f.l.take j = f.l.take 10 by
       by_cases h10 : f.l.length ≤ j
       ·rw [List.take_of_length_le h10, List.take_of_length_le (by omega)]
       ·rw [show j = 10 by omega]]
      exact List.map_congr_left fun x _ => (cG_eq _).symm
    conv => whnf
    rw [hl, cutF_eq]
    exact ⟨.inl rfl, rfl⟩
theorem cutAt_fn : ∀ (d : Nat), d ≤ 100 → ∀ f : Flt, Fn Tryz.prog X 37 [.v (.agg (cG f)), .v (.int .i64 ((d + 1 : Nat) : Int))] (.v (.agg (cG (cutF d f))))
 | 0, hd, f => cutAt_one 0 f hd (fun e h => by cases h)
 | d + 1, hd, f => cutAt_one (d + 1) f hd (fun e h x => by
   obtain rfl : d = e := by omega
   exact cutAt_fn d (by omega) x)
def CutF (f : Flt) : Flt := cutF 7 f
theorem CutF_fn (f : Flt) : Fn Tryz.prog X 17 [.v (.agg (cG f))] (.v (.agg (cG (CutF f)))) := by
 refine fn_prog tabOk mixed Tryz.f17 Tryz.func17 (by kernel_rfl) (by kernel_rfl) ?_
 conv => whnf
 (refine st_call (cutAt_fn 7 (by omega) f) ?_ rfl rfl ?_; (focus ((repeat' first|exact trivial|exact rfl|exact .inl rfl|exact .inr ⟨rfl,rfl⟩|refine And.intro ?_ ?_);done)); conv => whnf)
 exact ⟨.inl rfl, rfl⟩
def cut500 (s : ByteArray) : ByteArray := s.extract 0 (min s.size 500)
theorem cutS_fn (s : ByteArray) : Fn Tryz.prog X 18 [.v (.str s)] (.v (.str (cut500 s))) := by
 refine fn_prog tabOk mixed Tryz.f18 Tryz.func18 (by kernel_rfl) (by kernel_rfl) ?_
 conv => whnf
 refine st_min 500 ?_
 conv => whnf
 refine st_cut 0 (min s.size 500) rfl rfl (by omega) (by omega) ?_
 conv => whnf
 exact ⟨.inl rfl, rfl⟩
theorem cut61_size (s : ByteArray) : (cut61B s).size ≤ 61 := by unfold cut61B; rw [ByteArray.size_extract]; omega
mutual
theorem cut_mid : ∀ (d : Nat) (f : Flt), midF (cutF d f)
 | 0, .mk k n v a f _ => ⟨Nat.le_trans (cut61_size n) (by decide), Nat.le_trans (cut61_size v) (by decide), Nat.le_trans (cut61_size f) (by decide), by rw [List.length_map, List.length_take]; omega, Nat.zero_le _, trivial⟩
 | d + 1, .mk k n v a f l => ⟨Nat.le_trans (cut61_size n) (by decide), Nat.le_trans (cut61_size v) (by decide), Nat.le_trans (cut61_size f) (by decide), by rw [List.length_map, List.length_take]; omega, by rw [List.length_map, List.length_take]; omega, cuts_mid d (l.take 10)⟩
theorem cuts_mid : ∀ (d : Nat) (l : List Flt), midFs (l.map (cutF d))
 | _, [] => trivial
 | d, x :: r => ⟨cut_mid d x, cuts_mid d r⟩
end
def cutN : Nat → Nat
 | 0 => 1
 | d + 1 => 1 + 10 * cutN d
mutual
theorem cut_cnt : ∀ (d k : Nat) (f : Flt), (preF k (cutF d f)).length ≤ cutN d
 | 0, k, .mk _ _ _ _ _ _ => by
  rw [cutF, preF, preFs]; exact Nat.le_refl _
 | d + 1, k, .mk _ _ _ _ _ l => by
  have h := cuts_cnt d (k + 1) (l.take 10)
  have h2 : (l.take 10).length * cutN d ≤ 10 * cutN d := Nat.mul_le_mul_right _ (by rw [List.length_take]; omega)
  rw [cutF, preF, List.length_cons, cutN]
  omega
theorem cuts_cnt : ∀ (d k : Nat) (l : List Flt), (preFs k (l.map (cutF d))).length ≤ l.length * cutN d
 | _, _, [] => Nat.zero_le _
 | d, k, x :: r => by
  have h1 := cut_cnt d k x
  have h2 := cuts_cnt d k r
  rw [List.map_cons, preFs, List.length_append, List.length_cons, Nat.succ_mul]
  omega
end
theorem Cut_mid (f : Flt) : midF (CutF f) := cut_mid 7 f
theorem Cut_cnt (k : Nat) (f : Flt) : (preF k (CutF f)).length ≤ 11111111 := cut_cnt 7 k f
theorem f0_right : rightF 1 f0 = false := by decide +kernel
theorem f0_mid : midF f0 := ⟨by decide, by decide, by decide, by decide, by decide, trivial⟩
end Go.Proofs.YtiafggoaedifdaaGreatDoor.Fi
/- The statements of latinerlaw09, walked: trees cut, texts cut; what they share. -/
namespace Go.Proofs.YtiafggoaedifdaaGreatDoor.Fb
open Go.RowKit Go.Shelf Go.Lib Fl Tl
open Fi (one_arg cG cF cFs cG_eq midF midFs encS f0)
set_option linter.unusedVariables false
variable {X : En}
def cut4 (s : ByteArray) : ByteArray := s.extract 0 (min s.size 4000)
def cutT : Nat → Nd → Nd
 | 0, .mk t x _ => .mk t (cut4 x) []
 | d + 1, .mk t x k => .mk t (cut4 x) ((k.take 60).map (cutT d))
def cutsT : Nat → Nd → List Nd
 | 0, _ => []
 | d + 1, n => (n.kids.take 60).map (cutT d)
theorem cutT_eq : ∀ (d : Nat) (n : Nd), cutT d n = .mk n.tag (cut4 n.data) (cutsT d n)
 | 0, .mk t x _ => rfl
 | d + 1, .mk t x k => rfl
set_option maxHeartbeats 4000000 in
theorem cutAt_one (d : Nat) (n : Nd) (hd : d ≤ 100) (hrec : ∀ e, d = e + 1 → ∀ x : Nd, Fn Tryz.prog X 52 [.v (.agg (cM x)), .v (.int .i64 ((e + 1 : Nat) : Int))] (.v (.agg (cM (cutT e x))))) : Fn Tryz.prog X 52 [.v (.agg (cM n)), .v (.int .i64 ((d + 1 : Nat) : Int))] (.v (.agg (cM (cutT d n)))) := by
 refine fn_prog tabOk mixed Tryz.f52 Tryz.func52 (by kernel_rfl) (by kernel_rfl) ?_
 conv => whnf
 refine ⟨none, by kernel_rfl, ?_⟩; conv => whnf
 refine st_min 4000 ?_
 conv => whnf
 refine st_cut 0 (min n.data.size 4000) rfl rfl (by omega) (by omega) ?_
 conv => whnf
 refine ⟨Nat, fun j => ⟨46, [(1, .v (.int .i64 ((d + 1 : Nat) : Int))), (2, .ptr 2 0), (4, .ptr 4 0), (5, .ptr 5 0), (6, .v (.int .i64 (j : Nat)))], [(2, (cM n).map .v), (4, [.v (.int .i64 0), .v (.str (bt' [])), .v .nils]), (5, [.v (.int .i64 n.tag), .v (.str (cut4 n.data)), .own 43 46 ((n.kids.take j).map fun x => cM (cutT (d - 1) x))])], [(43, some 46)]⟩, fun j => j ≤ n.kids.length ∧ j ≤ 60 ∧ (d = 0 → j = 0), fun j => n.kids.length - j, ⟨0, [(43, none)], ⟨by omega, by omega, fun _ => rfl⟩, ?_⟩, fun j ⟨hj, hj10, hd0⟩ => ?_⟩
 ·(focus ((repeat' first|exact trivial|exact rfl|exact .inl rfl|exact .inr ⟨rfl,rfl⟩|refine And.intro ?_ ?_);done))
 conv => whnf
 refine ⟨rfl, cmp_split (fun h => ?_) (fun h => ?_)⟩
 have hjl : j < n.kids.length := by rw [List.length_map] at h; omega
 conv => whnf
 refine ⟨rfl, cmp_split (fun h2 => ?_) (fun h2 => ?_)⟩
 conv => whnf
 refine ⟨rfl, cmp_split (fun h3 => ?_) (fun h3 => ?_)⟩
 ·conv => whnf
  refine ⟨none, by kernel_rfl, ?_⟩; conv => whnf
  refine st_idxN hjl ?_
  conv => whnf
  obtain ⟨e, rfl⟩ : ∃ e, d = e + 1 := ⟨d - 1, by omega⟩
  refine st_minus (e + 1 + 1) 1 (by omega) (by omega) ?_
  conv => whnf
  (refine st_call (hrec e rfl n.kids[j]) ?_ rfl rfl ?_; (focus ((repeat' first|exact trivial|exact rfl|exact .inl rfl|exact .inr ⟨rfl,rfl⟩|refine And.intro ?_ ?_);done)); conv => whnf)
  refine st_app (by simp; omega) (by simp [V.cells]) (map_take_succ (enc := fun x => cM (cutT e x)) hjl) ?_
  conv => whnf
  refine ⟨rfl, st_succ (by omega) ?_⟩
  conv => whnf
  refine ⟨j + 1, [(43, some 43)], ⟨by omega, by omega, fun h => by omega⟩, by dsimp only; omega, ?_⟩
  (focus ((repeat' first|exact trivial|exact rfl|exact .inl rfl|exact .inr ⟨rfl,rfl⟩|refine And.intro ?_ ?_);done))
 all_goals
  have hl : ((n.kids.take j).map fun x => cM (cutT (d - 1) x)) = (cutsT d n).map cN := by
   rw [List.length_map] at h
   cases d with
   | zero => rw [hd0 rfl]; rfl
   | succ e =>
    show _ = ((n.kids.take 60).map (cutT e)).map cN
    rw [List.map_map, show n.kids.take j = n.kids.take 60 by
     by_cases h10 : n.kids.length ≤ j
     ·rw [List.take_of_length_le h10, List.take_of_length_le (by omega)]
     ·rw [show j = 60 by omega]]
    exact List.map_congr_left fun x _ => (cM_eq _).symm
  conv => whnf
  rw [hl, cutT_eq]
  exact ⟨.inl rfl, rfl⟩
theorem cutAt_fn : ∀ (d : Nat), d ≤ 100 → ∀ n : Nd, Fn Tryz.prog X 52 [.v (.agg (cM n)), .v (.int .i64 ((d + 1 : Nat) : Int))] (.v (.agg (cM (cutT d n))))
 | 0, hd, n => cutAt_one 0 n hd (fun e h => by cases h)
 | d + 1, hd, n => cutAt_one (d + 1) n hd (fun e h x => by
   obtain rfl : d = e := by omega
   exact cutAt_fn d (by omega) x)
def CutT (n : Nd) : Nd := cutT 12 n
theorem CutT_fn (n : Nd) : Fn Tryz.prog X 29 [.v (.agg (cM n))] (.v (.agg (cM (CutT n)))) := by
 refine fn_prog tabOk mixed Tryz.f29 Tryz.func29 (by kernel_rfl) (by kernel_rfl) ?_
 conv => whnf
 (refine st_call (cutAt_fn 12 (by omega) n) ?_ rfl rfl ?_; (focus ((repeat' first|exact trivial|exact rfl|exact .inl rfl|exact .inr ⟨rfl,rfl⟩|refine And.intro ?_ ?_);done)); conv => whnf)
 exact ⟨.inl rfl, rfl⟩
theorem cut4_size (s : ByteArray) : (cut4 s).size ≤ 4000 := by unfold cut4; rw [ByteArray.size_extract]; omega
mutual
theorem cut_kid : ∀ (d : Nat) (n : Nd), kidLe 60 (cutT d n)
 | 0, .mk t x _ => ⟨Nat.le_trans (cut4_size x) (by decide), Nat.zero_le _, trivial⟩
 | d + 1, .mk t x k => ⟨Nat.le_trans (cut4_size x) (by decide), by rw [List.length_map, List.length_take]; omega, cuts_kid d (k.take 60)⟩
theorem cuts_kid : ∀ (d : Nat) (l : List Nd), kidLes 60 (l.map (cutT d))
 | _, [] => trivial
 | d, x :: r => ⟨cut_kid d x, cuts_kid d r⟩
end
theorem CutT_small (n : Nd) : Small (CutT n) := small_60 (cut_kid 12 n)
def cut2000 (s : ByteArray) : ByteArray := s.extract 0 (min s.size 2000)
theorem cut2000_fn (s : ByteArray) : Fn Tryz.prog X 30 [.v (.str s)] (.v (.str (cut2000 s))) := by
 refine fn_prog tabOk mixed Tryz.f30 Tryz.func30 (by kernel_rfl) (by kernel_rfl) ?_
 conv => whnf
 refine st_min 2000 ?_
 conv => whnf
 refine st_cut 0 (min s.size 2000) rfl rfl (by omega) (by omega) ?_
 conv => whnf
 exact ⟨.inl rfl, rfl⟩
def q1 : Flt := .mk 3 (bt' [97]) (bt' [98]) [] (bt' []) []
def q2 : Flt := .mk 4 (bt' [97]) (bt' []) [bt' [120]] (bt' []) []
theorem q1_right : rightF 1 q1 = true := by decide +kernel
theorem q1_rightN : rightN (treeF q1) = true := by decide +kernel
theorem q1_lay : layN (treeF q1) = [163, 6, 4, 1, 97, 4, 1, 98] := by decide +kernel
theorem q2_dec : decO (bt' [164, 8, 4, 1, 97, 48, 3, 129, 1, 120]) = some q2 := by kernel_rfl
theorem q3_dec : decO (bt' [164, 5, 4, 1, 97, 48, 0]) = none := by kernel_rfl
theorem q4_dec : decO (bt' [135, 0]) = none := by kernel_rfl
theorem q2_right : rightF 1 q2 = true := by decide +kernel
theorem q2_text : prF q2 = [40, 97, 61, 42, 120, 42, 41] := by decide +kernel
theorem q1_mid : midF q1 := ⟨by decide, by decide, by decide, by decide, by decide, trivial⟩
theorem q2_mid : midF q2 := ⟨by decide, by decide, by decide, by decide, by decide, trivial⟩
variable (p : Nat → Addr)
set_option maxHeartbeats 4000000 in
theorem shown_fn : Fn Tryz.prog (envX p) 28 [] (.v (.bool true)) := by
 have h1 := Encode_fn p q1 q1_mid (by decide)
 rw [show encO q1 = some (bt' [163, 6, 4, 1, 97, 4, 1, 98]) from by unfold encO; rw [if_pos ⟨q1_right, q1_rightN⟩, q1_lay]] at h1
 have h2 := Decode_fn p (bt' [164, 8, 4, 1, 97, 48, 3, 129, 1, 120]) (by decide)
 rw [q2_dec] at h2
 have h3 := Decode_fn p (bt' [164, 5, 4, 1, 97, 48, 0]) (by decide)
 rw [q3_dec] at h3
 have h4 := Decode_fn p (bt' [135, 0]) (by decide)
 rw [q4_dec] at h4
 have h5 := Fi.print_fn p q2 q2_mid (by decide)
 unfold Fi.prR at h5
 rw [if_pos q2_right, q2_text] at h5
 unfold encR at h1
 unfold rdT at h2 h3 h4
 dsimp only at h1 h2 h3 h4
 refine fn_prog tabOk mixed Tryz.f28 Tryz.func28 (by kernel_rfl) (by kernel_rfl) ?_
 conv => whnf
 (refine st_call h1 ?_ rfl rfl ?_; (focus ((repeat' first|exact trivial|exact rfl|exact .inl rfl|exact .inr ⟨rfl,rfl⟩|refine And.intro ?_ ?_);done)); conv => whnf)
 (refine st_call h2 ?_ rfl rfl ?_; (focus ((repeat' first|exact trivial|exact rfl|exact .inl rfl|exact .inr ⟨rfl,rfl⟩|refine And.intro ?_ ?_);done)); conv => whnf)
 (refine st_call h3 ?_ rfl rfl ?_; (focus ((repeat' first|exact trivial|exact rfl|exact .inl rfl|exact .inr ⟨rfl,rfl⟩|refine And.intro ?_ ?_);done)); conv => whnf)
 (refine st_call h4 ?_ rfl rfl ?_; (focus ((repeat' first|exact trivial|exact rfl|exact .inl rfl|exact .inr ⟨rfl,rfl⟩|refine And.intro ?_ ?_);done)); conv => whnf)
 (refine st_call h5 ?_ rfl rfl ?_; (focus ((repeat' first|exact trivial|exact rfl|exact .inl rfl|exact .inr ⟨rfl,rfl⟩|refine And.intro ?_ ?_);done)); conv => whnf)
 (repeat' (first | ((refine ⟨rfl, cmp_true rfl ?_⟩) <;> (conv => whnf)) | ((refine ⟨rfl, cmp_true (by decide) ?_⟩) <;> (conv => whnf)) | ((refine cmp_true rfl ?_) <;> (conv => whnf)) | fail))
 exact ⟨.inl rfl, rfl⟩
end Go.Proofs.YtiafggoaedifdaaGreatDoor.Fb
/- The statements FberBack, FberSets, FberApart, FberNots, FberReads of latinerlaw09, walked. -/
namespace Go.Proofs.YtiafggoaedifdaaGreatDoor.Fb
open Go.RowKit Go.Shelf Go.Lib Fl Tl
open Fi (one_arg cG cF cFs cG_eq midF midFs encS f0 CutF CutF_fn Cut_mid Cut_cnt)
set_option linter.unusedVariables false
variable (p : Nat → Addr)
theorem decO_nil : decO (bt' []) = none := by
 unfold decO
 rw [show bl (bt' []) = [] from rfl, wholeN_nil]
theorem dec_nil : Fn Tryz.prog (envX p) 33 [.v (.str (bt' []))] (.tup [.v (.agg (cG f0)), .v (.int .i64 80)]) := by
 have h := Decode_fn p (bt' []) (by decide)
 rw [decO_nil] at h
 exact h
theorem read_nd0 : Fn Tryz.prog (envX p) 31 [.v (.agg (cM nd0))] (.tup [.v (.agg (cG f0)), .v (.int .i64 80)]) := by
 have h := Read_fn p nd0 small_nd0
 rw [whole_nd0] at h
 exact h
theorem decO_lay {f : Flt} (h : rightF 1 f = true) (h2 : rightN (treeF f) = true) : decO (bt' (layN (treeF f))) = some f := by
 unfold decO
 rw [bl_of, whole_lay h2]
 exact whole_tree h
theorem lay_size {n : Nd} (h : rightN n = true) : (bt' (layN n)).size ≤ 4000 := by
 rw [size_bt]
 exact (right_shape h).2.2
set_option maxHeartbeats 8000000 in
theorem back_fn (x : Flt) : Fn Tryz.prog (envX p) 13 [.v (.agg (cG x))] (.v (.bool true)) := by
 have hm := Cut_mid x
 have hN := Cut_cnt 1 x
 have hcx := CutF_fn (X := envX p) x
 generalize CutF x = f at *
 have ht := Tree_fn p f hm (by omega)
 have hen := Encode_fn p f hm (by omega)
 have hr := Fi.right_fn p f hm (by omega)
 have hsm := Fi.same_fn (X := envX p) f f hm hm
 rw [sameF_refl] at hsm
 unfold TreeT at ht
 refine fn_prog tabOk mixed Tryz.f13 Tryz.func13 (by kernel_rfl) (by kernel_rfl) ?_
 conv => whnf
 (refine st_call (shown_fn p) ?_ rfl rfl ?_; (focus ((repeat' first|exact trivial|exact rfl|exact .inl rfl|exact .inr ⟨rfl,rfl⟩|refine And.intro ?_ ?_);done)); conv => whnf)
 (refine st_call hcx ?_ rfl rfl ?_; (focus ((repeat' first|exact trivial|exact rfl|exact .inl rfl|exact .inr ⟨rfl,rfl⟩|refine And.intro ?_ ?_);done)); conv => whnf)
 cases hR : rightF 1 f
 ·rw [hR, if_neg (by decide)] at ht
  rw [hR] at hr
  rw [show encO f = none from by unfold encO; rw [if_neg (fun e => by rw [hR] at e; cases e.1)]] at hen
  unfold encR at hen
  dsimp only at hen
  (refine st_call ht ?_ rfl rfl ?_; (focus ((repeat' first|exact trivial|exact rfl|exact .inl rfl|exact .inr ⟨rfl,rfl⟩|refine And.intro ?_ ?_);done)); conv => whnf)
  (refine st_call (read_nd0 p) ?_ rfl rfl ?_; (focus ((repeat' first|exact trivial|exact rfl|exact .inl rfl|exact .inr ⟨rfl,rfl⟩|refine And.intro ?_ ?_);done)); conv => whnf)
  (refine st_call hen ?_ rfl rfl ?_; (focus ((repeat' first|exact trivial|exact rfl|exact .inl rfl|exact .inr ⟨rfl,rfl⟩|refine And.intro ?_ ?_);done)); conv => whnf)
  (refine st_call (dec_nil p) ?_ rfl rfl ?_; (focus ((repeat' first|exact trivial|exact rfl|exact .inl rfl|exact .inr ⟨rfl,rfl⟩|refine And.intro ?_ ?_);done)); conv => whnf)
  (repeat' (first | ((refine ⟨rfl, cmp_true rfl ?_⟩) <;> (conv => whnf)) | ((refine ⟨rfl, cmp_true (by decide) ?_⟩) <;> (conv => whnf)) | ((refine ⟨rfl, cmp_false (by decide) ?_⟩) <;> (conv => whnf)) | ((refine cmp_true rfl ?_) <;> (conv => whnf)) | (((with_reducible apply st_call (hr)); (focus ((repeat' first|exact trivial|exact rfl|exact .inl rfl|exact .inr ⟨rfl,rfl⟩|refine And.intro ?_ ?_);done)); (focus (exact rfl)); (focus (exact rfl))) <;> (conv => whnf)) | fail))
  exact ⟨.inl rfl, rfl⟩
 ·rw [hR, if_pos rfl] at ht
  rw [hR] at hr
  have hrd := Read_fn p (treeF f) (small_tree hR)
  rw [whole_tree hR] at hrd
  unfold rdT at hrd
  dsimp only at hrd
  have hrn := Tl.right_fn p (treeF f) (Nat.le_trans (tree_bound hR) (by decide))
  (refine st_call ht ?_ rfl rfl ?_; (focus ((repeat' first|exact trivial|exact rfl|exact .inl rfl|exact .inr ⟨rfl,rfl⟩|refine And.intro ?_ ?_);done)); conv => whnf)
  (refine st_call hrd ?_ rfl rfl ?_; (focus ((repeat' first|exact trivial|exact rfl|exact .inl rfl|exact .inr ⟨rfl,rfl⟩|refine And.intro ?_ ?_);done)); conv => whnf)
  cases hR2 : rightN (treeF f)
  ·rw [hR2] at hrn
   rw [show encO f = none from by unfold encO; rw [if_neg (fun e => by rw [hR2] at e; cases e.2)]] at hen
   unfold encR at hen
   dsimp only at hen
   (refine st_call hen ?_ rfl rfl ?_; (focus ((repeat' first|exact trivial|exact rfl|exact .inl rfl|exact .inr ⟨rfl,rfl⟩|refine And.intro ?_ ?_);done)); conv => whnf)
   (refine st_call (dec_nil p) ?_ rfl rfl ?_; (focus ((repeat' first|exact trivial|exact rfl|exact .inl rfl|exact .inr ⟨rfl,rfl⟩|refine And.intro ?_ ?_);done)); conv => whnf)
   (repeat' (first | ((refine ⟨rfl, cmp_true rfl ?_⟩) <;> (conv => whnf)) | ((refine ⟨rfl, cmp_true (by decide) ?_⟩) <;> (conv => whnf)) | ((refine ⟨rfl, cmp_false (by decide) ?_⟩) <;> (conv => whnf)) | ((refine cmp_true rfl ?_) <;> (conv => whnf)) | (((with_reducible apply st_call (hr)); (focus ((repeat' first|exact trivial|exact rfl|exact .inl rfl|exact .inr ⟨rfl,rfl⟩|refine And.intro ?_ ?_);done)); (focus (exact rfl)); (focus (exact rfl))) <;> (conv => whnf)) | (((with_reducible apply st_call (hsm)); (focus ((repeat' first|exact trivial|exact rfl|exact .inl rfl|exact .inr ⟨rfl,rfl⟩|refine And.intro ?_ ?_);done)); (focus (exact rfl)); (focus (exact rfl))) <;> (conv => whnf)) | (((with_reducible apply st_call (hrn)); (focus ((repeat' first|exact trivial|exact rfl|exact .inl rfl|exact .inr ⟨rfl,rfl⟩|refine And.intro ?_ ?_);done)); (focus (exact rfl)); (focus (exact rfl))) <;> (conv => whnf)) | fail))
   exact ⟨.inl rfl, rfl⟩
  ·rw [hR2] at hrn
   rw [show encO f = some (bt' (layN (treeF f))) from by unfold encO; rw [if_pos ⟨hR, hR2⟩]] at hen
   unfold encR at hen
   dsimp only at hen
   have hde := Decode_fn p (bt' (layN (treeF f))) (Nat.le_trans (lay_size hR2) (by decide))
   rw [decO_lay hR hR2] at hde
   unfold rdT at hde
   dsimp only at hde
   (refine st_call hen ?_ rfl rfl ?_; (focus ((repeat' first|exact trivial|exact rfl|exact .inl rfl|exact .inr ⟨rfl,rfl⟩|refine And.intro ?_ ?_);done)); conv => whnf)
   (refine st_call hde ?_ rfl rfl ?_; (focus ((repeat' first|exact trivial|exact rfl|exact .inl rfl|exact .inr ⟨rfl,rfl⟩|refine And.intro ?_ ?_);done)); conv => whnf)
   (repeat' (first | ((refine ⟨rfl, cmp_true rfl ?_⟩) <;> (conv => whnf)) | ((refine ⟨rfl, cmp_true (by decide) ?_⟩) <;> (conv => whnf)) | ((refine ⟨rfl, cmp_false (by decide) ?_⟩) <;> (conv => whnf)) | ((refine cmp_true rfl ?_) <;> (conv => whnf)) | (((with_reducible apply st_call (hr)); (focus ((repeat' first|exact trivial|exact rfl|exact .inl rfl|exact .inr ⟨rfl,rfl⟩|refine And.intro ?_ ?_);done)); (focus (exact rfl)); (focus (exact rfl))) <;> (conv => whnf)) | (((with_reducible apply st_call (hsm)); (focus ((repeat' first|exact trivial|exact rfl|exact .inl rfl|exact .inr ⟨rfl,rfl⟩|refine And.intro ?_ ?_);done)); (focus (exact rfl)); (focus (exact rfl))) <;> (conv => whnf)) | (((with_reducible apply st_call (hrn)); (focus ((repeat' first|exact trivial|exact rfl|exact .inl rfl|exact .inr ⟨rfl,rfl⟩|refine And.intro ?_ ?_);done)); (focus (exact rfl)); (focus (exact rfl))) <;> (conv => whnf)) | fail))
   exact ⟨.inl rfl, rfl⟩
set_option maxHeartbeats 8000000 in
theorem sets_law (x y : Flt) : Fn Tryz.prog (envX p) 11 [.v (.agg (cG x)), .v (.agg (cG y))] (.v (.bool true)) := by
 have hm := Cut_mid x
 have hN := Cut_cnt 1 x
 have hN2 := Cut_cnt 2 x
 have hcx := CutF_fn (X := envX p) x
 generalize CutF x = f at *
 have hm' := Cut_mid y
 have hN' := Cut_cnt 1 y
 have hN2' := Cut_cnt 2 y
 have hcy := CutF_fn (X := envX p) y
 generalize CutF y = g at *
 have hp := Tree_fn p f hm (by omega)
 have hp' := Tree_fn p g hm' (by omega)
 have hmz : midF (.mk 0 (bt' []) (bt' []) [] (bt' []) [f, g]) := ⟨by decide, by decide, by decide, by decide, by show 2 ≤ 100000000; decide, hm, hm', trivial⟩
 have hNz : (preF 1 (.mk 0 (bt' []) (bt' []) [] (bt' []) [f, g])).length ≤ 900000000 := by
  rw [preF, preFs, preFs, preFs, List.append_nil, List.length_cons, List.length_append, show (1 + 1 : Nat) = 2 from rfl]; omega
 have hq := Tree_fn p _ hmz hNz
 have e : cG (.mk 0 (bt' []) (bt' []) [] (bt' []) [f, g]) = [.int .i64 0, .str (bt' []), .str (bt' []), .sl [], .str (bt' []), .sl [cG f, cG g]] := by rw [← cG_eq f, ← cG_eq g]; rfl
 rw [e] at hq
 unfold TreeT at hp hp' hq
 refine fn_prog tabOk mixed Tryz.f11 Tryz.func11 (by kernel_rfl) (by kernel_rfl) ?_
 conv => whnf
 (refine st_call (shown_fn p) ?_ rfl rfl ?_; (focus ((repeat' first|exact trivial|exact rfl|exact .inl rfl|exact .inr ⟨rfl,rfl⟩|refine And.intro ?_ ?_);done)); conv => whnf)
 (refine st_call hcx ?_ rfl rfl ?_; (focus ((repeat' first|exact trivial|exact rfl|exact .inl rfl|exact .inr ⟨rfl,rfl⟩|refine And.intro ?_ ?_);done)); conv => whnf)
 (refine st_call hcy ?_ rfl rfl ?_; (focus ((repeat' first|exact trivial|exact rfl|exact .inl rfl|exact .inr ⟨rfl,rfl⟩|refine And.intro ?_ ?_);done)); conv => whnf)
 cases hR : rightF 1 (.mk 0 (bt' []) (bt' []) [] (bt' []) [f, g])
 ·rw [hR, if_neg (by decide)] at hq
  by_cases hf : rightF 1 f = true <;> by_cases hg : rightF 1 g = true
  all_goals
   simp only [hf, hg, if_true, if_false, Bool.false_eq_true] at hp hp'
   (refine st_call hq ?_ rfl rfl ?_; (focus ((repeat' first|exact trivial|exact rfl|exact .inl rfl|exact .inr ⟨rfl,rfl⟩|refine And.intro ?_ ?_);done)); conv => whnf)
   (refine st_call hp ?_ rfl rfl ?_; (focus ((repeat' first|exact trivial|exact rfl|exact .inl rfl|exact .inr ⟨rfl,rfl⟩|refine And.intro ?_ ?_);done)); conv => whnf)
   (refine st_call hp' ?_ rfl rfl ?_; (focus ((repeat' first|exact trivial|exact rfl|exact .inl rfl|exact .inr ⟨rfl,rfl⟩|refine And.intro ?_ ?_);done)); conv => whnf)
   (repeat' (first | ((refine ⟨rfl, cmp_true rfl ?_⟩) <;> (conv => whnf)) | ((refine ⟨rfl, cmp_true (by decide) ?_⟩) <;> (conv => whnf)) | ((refine ⟨rfl, cmp_false (by decide) ?_⟩) <;> (conv => whnf)) | ((refine cmp_true rfl ?_) <;> (conv => whnf)) | fail))
   exact ⟨.inl rfl, rfl⟩
 ·obtain ⟨hf, hg⟩ := sets_right hR
  have htree : treeF (.mk 0 (bt' []) (bt' []) [] (bt' []) [f, g]) = .mk 160 (bt' []) [treeF f, treeF g] := by
   rw [treeF, if_neg (by decide), if_neg (by decide), if_neg (by decide), treeFs, treeFs, treeFs]
   rfl
  rw [hR, if_pos rfl, htree] at hq
  rw [hf, if_pos rfl] at hp
  rw [hg, if_pos rfl] at hp'
  have hs := Tl.same_fn (X := envX p) (treeF f) (treeF f) (small_mid (small_tree hf)) (small_mid (small_tree hf))
  have hs' := Tl.same_fn (X := envX p) (treeF g) (treeF g) (small_mid (small_tree hg)) (small_mid (small_tree hg))
  rw [sameN_refl] at hs hs'
  (refine st_call hq ?_ rfl rfl ?_; (focus ((repeat' first|exact trivial|exact rfl|exact .inl rfl|exact .inr ⟨rfl,rfl⟩|refine And.intro ?_ ?_);done)); conv => whnf)
  (refine st_call hp ?_ rfl rfl ?_; (focus ((repeat' first|exact trivial|exact rfl|exact .inl rfl|exact .inr ⟨rfl,rfl⟩|refine And.intro ?_ ?_);done)); conv => whnf)
  (refine st_call hp' ?_ rfl rfl ?_; (focus ((repeat' first|exact trivial|exact rfl|exact .inl rfl|exact .inr ⟨rfl,rfl⟩|refine And.intro ?_ ?_);done)); conv => whnf)
  refine ⟨rfl, cmp_false (by decide) ?_⟩
  conv => whnf
  refine ⟨none, by kernel_rfl, ?_⟩; conv => whnf
  refine ⟨rfl, cmp_true rfl ?_⟩
  conv => whnf
  refine ⟨rfl, cmp_true rfl ?_⟩
  conv => whnf
  refine ⟨rfl, cmp_true rfl ?_⟩
  conv => whnf
  refine ⟨rfl, cmp_true rfl ?_⟩
  conv => whnf
  refine st_idxN (xs := [treeF f, treeF g]) (i := 0) (by simp) ?_
  conv => whnf
  (refine st_call hs ?_ rfl rfl ?_; (focus ((repeat' first|exact trivial|exact rfl|exact .inl rfl|exact .inr ⟨rfl,rfl⟩|refine And.intro ?_ ?_);done)); conv => whnf)
  refine st_idxN (xs := [treeF f, treeF g]) (i := 1) (by simp) ?_
  conv => whnf
  (refine st_call hs' ?_ rfl rfl ?_; (focus ((repeat' first|exact trivial|exact rfl|exact .inl rfl|exact .inr ⟨rfl,rfl⟩|refine And.intro ?_ ?_);done)); conv => whnf)
  exact ⟨.inl rfl, rfl⟩
set_option maxHeartbeats 8000000 in
theorem apart_law (x y : Flt) : Fn Tryz.prog (envX p) 14 [.v (.agg (cG x)), .v (.agg (cG y))] (.v (.bool true)) := by
 have hm := Cut_mid x
 have hN := Cut_cnt 1 x
 have hcx := CutF_fn (X := envX p) x
 generalize CutF x = f at *
 have hm' := Cut_mid y
 have hN' := Cut_cnt 1 y
 have hcy := CutF_fn (X := envX p) y
 generalize CutF y = g at *
 have hp := Tree_fn p f hm (by omega)
 have hp' := Tree_fn p g hm' (by omega)
 unfold TreeT at hp hp'
 refine fn_prog tabOk mixed Tryz.f14 Tryz.func14 (by kernel_rfl) (by kernel_rfl) ?_
 conv => whnf
 (refine st_call (shown_fn p) ?_ rfl rfl ?_; (focus ((repeat' first|exact trivial|exact rfl|exact .inl rfl|exact .inr ⟨rfl,rfl⟩|refine And.intro ?_ ?_);done)); conv => whnf)
 (refine st_call hcx ?_ rfl rfl ?_; (focus ((repeat' first|exact trivial|exact rfl|exact .inl rfl|exact .inr ⟨rfl,rfl⟩|refine And.intro ?_ ?_);done)); conv => whnf)
 (refine st_call hcy ?_ rfl rfl ?_; (focus ((repeat' first|exact trivial|exact rfl|exact .inl rfl|exact .inr ⟨rfl,rfl⟩|refine And.intro ?_ ?_);done)); conv => whnf)
 by_cases hf : rightF 1 f = true
 rotate_left
 ·simp only [hf, if_false, Bool.false_eq_true] at hp
  by_cases hg : rightF 1 g = true
  all_goals
   simp only [hg, if_true, if_false, Bool.false_eq_true] at hp'
   (refine st_call hp ?_ rfl rfl ?_; (focus ((repeat' first|exact trivial|exact rfl|exact .inl rfl|exact .inr ⟨rfl,rfl⟩|refine And.intro ?_ ?_);done)); conv => whnf)
   (refine st_call hp' ?_ rfl rfl ?_; (focus ((repeat' first|exact trivial|exact rfl|exact .inl rfl|exact .inr ⟨rfl,rfl⟩|refine And.intro ?_ ?_);done)); conv => whnf)
   (repeat' (first | ((refine ⟨rfl, cmp_true rfl ?_⟩) <;> (conv => whnf)) | ((refine ⟨rfl, cmp_true (by decide) ?_⟩) <;> (conv => whnf)) | ((refine ⟨rfl, cmp_false (by decide) ?_⟩) <;> (conv => whnf)) | ((refine cmp_true rfl ?_) <;> (conv => whnf)) | fail))
   exact ⟨.inl rfl, rfl⟩
 by_cases hg : rightF 1 g = true
 rotate_left
 ·simp only [hf, hg, if_true, if_false, Bool.false_eq_true] at hp hp'
  (refine st_call hp ?_ rfl rfl ?_; (focus ((repeat' first|exact trivial|exact rfl|exact .inl rfl|exact .inr ⟨rfl,rfl⟩|refine And.intro ?_ ?_);done)); conv => whnf)
  (refine st_call hp' ?_ rfl rfl ?_; (focus ((repeat' first|exact trivial|exact rfl|exact .inl rfl|exact .inr ⟨rfl,rfl⟩|refine And.intro ?_ ?_);done)); conv => whnf)
  (repeat' (first | ((refine ⟨rfl, cmp_true rfl ?_⟩) <;> (conv => whnf)) | ((refine ⟨rfl, cmp_true (by decide) ?_⟩) <;> (conv => whnf)) | ((refine ⟨rfl, cmp_false (by decide) ?_⟩) <;> (conv => whnf)) | ((refine cmp_true rfl ?_) <;> (conv => whnf)) | fail))
  exact ⟨.inl rfl, rfl⟩
 rw [hf, if_pos rfl] at hp
 rw [hg, if_pos rfl] at hp'
 have hs := Tl.same_fn (X := envX p) (treeF f) (treeF g) (small_mid (small_tree hf)) (small_mid (small_tree hg))
 have hs' := Fi.same_fn (X := envX p) f g hm hm'
 have hb : sameN (treeF f) (treeF g) = sameF f g := by
  by_cases e : f = g
  ·rw [e, sameF_refl, sameN_refl]
  ·rw [Bool.eq_false_iff.2 (fun h => e ((sameF_iff f g).1 h)), Bool.eq_false_iff.2 (fun h => e (tree_inj hf hg ((sameN_iff _ _).1 h)))]
 rw [hb] at hs
 generalize sameF f g = b at hs hs'
 (refine st_call hp ?_ rfl rfl ?_; (focus ((repeat' first|exact trivial|exact rfl|exact .inl rfl|exact .inr ⟨rfl,rfl⟩|refine And.intro ?_ ?_);done)); conv => whnf)
 (refine st_call hp' ?_ rfl rfl ?_; (focus ((repeat' first|exact trivial|exact rfl|exact .inl rfl|exact .inr ⟨rfl,rfl⟩|refine And.intro ?_ ?_);done)); conv => whnf)
 refine ⟨rfl, cmp_false (by decide) ?_⟩
 conv => whnf
 refine ⟨rfl, cmp_false (by decide) ?_⟩
 conv => whnf
 cases b
 all_goals
  refine ⟨some [0, 1, 2, 3, 5, 6, 4, 7, 8, 9, 10], by kernel_rfl, ?_⟩; conv => whnf
  (refine st_call hs ?_ rfl rfl ?_; (focus ((repeat' first|exact trivial|exact rfl|exact .inl rfl|exact .inr ⟨rfl,rfl⟩|refine And.intro ?_ ?_);done)); conv => whnf)
  (refine st_call hs' ?_ rfl rfl ?_; (focus ((repeat' first|exact trivial|exact rfl|exact .inl rfl|exact .inr ⟨rfl,rfl⟩|refine And.intro ?_ ?_);done)); conv => whnf)
  refine cmp_true rfl ?_
  conv => whnf
  exact ⟨.inl rfl, rfl⟩
set_option maxHeartbeats 8000000 in
theorem reads_law (x : Nd) (s : ByteArray) : Fn Tryz.prog (envX p) 10 [.v (.agg (cM x)), .v (.str s)] (.v (.bool true)) := by
 have hsm := CutT_small x
 have hcx := CutT_fn (X := envX p) x
 generalize CutT x = n at *
 have hs2 : (cut2000 s).size ≤ 2000 := by unfold cut2000; rw [ByteArray.size_extract]; omega
 have hcs := cut2000_fn (X := envX p) s
 generalize cut2000 s = z at *
 have hrd := Read_fn p n hsm
 have hde := Decode_fn p z (by omega)
 have ht0 := Tree_fn p f0 Fi.f0_mid (by decide)
 unfold TreeT at ht0
 rw [Fi.f0_right, if_neg (by decide)] at ht0
 have he0 := Encode_fn p f0 Fi.f0_mid (by decide)
 rw [show encO f0 = none from by unfold encO; rw [if_neg (fun e => by rw [Fi.f0_right] at e; cases e.1)]] at he0
 unfold encR at he0
 dsimp only at he0
 refine fn_prog tabOk mixed Tryz.f10 Tryz.func10 (by kernel_rfl) (by kernel_rfl) ?_
 conv => whnf
 (refine st_call (shown_fn p) ?_ rfl rfl ?_; (focus ((repeat' first|exact trivial|exact rfl|exact .inl rfl|exact .inr ⟨rfl,rfl⟩|refine And.intro ?_ ?_);done)); conv => whnf)
 (refine st_call hcx ?_ rfl rfl ?_; (focus ((repeat' first|exact trivial|exact rfl|exact .inl rfl|exact .inr ⟨rfl,rfl⟩|refine And.intro ?_ ?_);done)); conv => whnf)
 (refine st_call hcs ?_ rfl rfl ?_; (focus ((repeat' first|exact trivial|exact rfl|exact .inl rfl|exact .inr ⟨rfl,rfl⟩|refine And.intro ?_ ?_);done)); conv => whnf)
 have hdec : ∀ y, decO z = some y → rightF 1 y = true ∧ rightN (treeF y) = true ∧ (layN (treeF y)).length ≤ z.size := fun y hy => by
  unfold decO at hy
  split at hy
  ·rename_i n2 hn2
   obtain ⟨w1, w2⟩ := whole_le hn2
   obtain ⟨v1, v2⟩ := whole_spec hy
   rw [v2]
   rw [size_bl] at w2
   exact ⟨v1, w1, w2⟩
  ·cases hy
 cases hw : wholeF n with
 | none =>
  rw [hw] at hrd
  unfold rdT at hrd
  dsimp only at hrd
  (refine st_call hrd ?_ rfl rfl ?_; (focus ((repeat' first|exact trivial|exact rfl|exact .inl rfl|exact .inr ⟨rfl,rfl⟩|refine And.intro ?_ ?_);done)); conv => whnf)
  (refine st_call ht0 ?_ rfl rfl ?_; (focus ((repeat' first|exact trivial|exact rfl|exact .inl rfl|exact .inr ⟨rfl,rfl⟩|refine And.intro ?_ ?_);done)); conv => whnf)
  cases hd : decO z with
  | none =>
   rw [hd] at hde
   unfold rdT at hde
   dsimp only at hde
   (refine st_call hde ?_ rfl rfl ?_; (focus ((repeat' first|exact trivial|exact rfl|exact .inl rfl|exact .inr ⟨rfl,rfl⟩|refine And.intro ?_ ?_);done)); conv => whnf)
   (refine st_call he0 ?_ rfl rfl ?_; (focus ((repeat' first|exact trivial|exact rfl|exact .inl rfl|exact .inr ⟨rfl,rfl⟩|refine And.intro ?_ ?_);done)); conv => whnf)
   (repeat' (first | ((refine ⟨rfl, cmp_true rfl ?_⟩) <;> (conv => whnf)) | ((refine ⟨rfl, cmp_true (by decide) ?_⟩) <;> (conv => whnf)) | ((refine ⟨rfl, cmp_false (by decide) ?_⟩) <;> (conv => whnf)) | ((refine cmp_true rfl ?_) <;> (conv => whnf)) | fail))
   exact ⟨.inl rfl, rfl⟩
  | some y =>
   obtain ⟨d1, d2, d3⟩ := hdec y hd
   rw [hd] at hde
   unfold rdT at hde
   dsimp only at hde
   have hey := Encode_fn p y (Fi.mid_right 1 y d1) (Fi.cnt_bound d1)
   rw [show encO y = some (bt' (layN (treeF y))) from by unfold encO; rw [if_pos ⟨d1, d2⟩]] at hey
   unfold encR at hey
   dsimp only at hey
   have hsz := size_bt (layN (treeF y))
   have hlen : (((bt' (layN (treeF y))).size : Nat) : Int) ≤ ((z.size : Nat) : Int) := by omega
   (refine st_call hde ?_ rfl rfl ?_; (focus ((repeat' first|exact trivial|exact rfl|exact .inl rfl|exact .inr ⟨rfl,rfl⟩|refine And.intro ?_ ?_);done)); conv => whnf)
   (refine st_call hey ?_ rfl rfl ?_; (focus ((repeat' first|exact trivial|exact rfl|exact .inl rfl|exact .inr ⟨rfl,rfl⟩|refine And.intro ?_ ?_);done)); conv => whnf)
   (repeat' (first | ((refine ⟨rfl, cmp_true rfl ?_⟩) <;> (conv => whnf)) | ((refine ⟨rfl, cmp_true (by decide) ?_⟩) <;> (conv => whnf)) | ((refine ⟨rfl, cmp_false (by decide) ?_⟩) <;> (conv => whnf)) | ((refine cmp_true rfl ?_) <;> (conv => whnf)) | ((refine ⟨rfl, cmp_true hlen ?_⟩) <;> (conv => whnf)) | fail))
   exact ⟨.inl rfl, rfl⟩
 | some f =>
  obtain ⟨hR, htn⟩ := whole_spec hw
  rw [hw] at hrd
  unfold rdT at hrd
  dsimp only at hrd
  have hmf := Fi.mid_right 1 f hR
  have hcf := Fi.cnt_bound hR
  have htf := Tree_fn p f hmf hcf
  unfold TreeT at htf
  rw [if_pos hR, htn] at htf
  have hrf := Fi.right_fn p f hmf hcf
  rw [hR] at hrf
  have hsn := Tl.same_fn (X := envX p) n n (small_mid hsm) (small_mid hsm)
  rw [sameN_refl] at hsn
  (refine st_call hrd ?_ rfl rfl ?_; (focus ((repeat' first|exact trivial|exact rfl|exact .inl rfl|exact .inr ⟨rfl,rfl⟩|refine And.intro ?_ ?_);done)); conv => whnf)
  (refine st_call htf ?_ rfl rfl ?_; (focus ((repeat' first|exact trivial|exact rfl|exact .inl rfl|exact .inr ⟨rfl,rfl⟩|refine And.intro ?_ ?_);done)); conv => whnf)
  cases hd : decO z with
  | none =>
   rw [hd] at hde
   unfold rdT at hde
   dsimp only at hde
   (refine st_call hde ?_ rfl rfl ?_; (focus ((repeat' first|exact trivial|exact rfl|exact .inl rfl|exact .inr ⟨rfl,rfl⟩|refine And.intro ?_ ?_);done)); conv => whnf)
   (refine st_call he0 ?_ rfl rfl ?_; (focus ((repeat' first|exact trivial|exact rfl|exact .inl rfl|exact .inr ⟨rfl,rfl⟩|refine And.intro ?_ ?_);done)); conv => whnf)
   (repeat' (first | ((refine ⟨rfl, cmp_true rfl ?_⟩) <;> (conv => whnf)) | ((refine ⟨rfl, cmp_true (by decide) ?_⟩) <;> (conv => whnf)) | ((refine ⟨rfl, cmp_false (by decide) ?_⟩) <;> (conv => whnf)) | ((refine cmp_true rfl ?_) <;> (conv => whnf)) | (((with_reducible apply st_call (hrf)); (focus ((repeat' first|exact trivial|exact rfl|exact .inl rfl|exact .inr ⟨rfl,rfl⟩|refine And.intro ?_ ?_);done)); (focus (exact rfl)); (focus (exact rfl))) <;> (conv => whnf)) | (((with_reducible apply st_call (hsn)); (focus ((repeat' first|exact trivial|exact rfl|exact .inl rfl|exact .inr ⟨rfl,rfl⟩|refine And.intro ?_ ?_);done)); (focus (exact rfl)); (focus (exact rfl))) <;> (conv => whnf)) | fail))
   exact ⟨.inl rfl, rfl⟩
  | some y =>
   obtain ⟨d1, d2, d3⟩ := hdec y hd
   rw [hd] at hde
   unfold rdT at hde
   dsimp only at hde
   have hey := Encode_fn p y (Fi.mid_right 1 y d1) (Fi.cnt_bound d1)
   rw [show encO y = some (bt' (layN (treeF y))) from by unfold encO; rw [if_pos ⟨d1, d2⟩]] at hey
   unfold encR at hey
   dsimp only at hey
   have hsz := size_bt (layN (treeF y))
   have hlen : (((bt' (layN (treeF y))).size : Nat) : Int) ≤ ((z.size : Nat) : Int) := by omega
   (refine st_call hde ?_ rfl rfl ?_; (focus ((repeat' first|exact trivial|exact rfl|exact .inl rfl|exact .inr ⟨rfl,rfl⟩|refine And.intro ?_ ?_);done)); conv => whnf)
   (refine st_call hey ?_ rfl rfl ?_; (focus ((repeat' first|exact trivial|exact rfl|exact .inl rfl|exact .inr ⟨rfl,rfl⟩|refine And.intro ?_ ?_);done)); conv => whnf)
   (repeat' (first | ((refine ⟨rfl, cmp_true rfl ?_⟩) <;> (conv => whnf)) | ((refine ⟨rfl, cmp_true (by decide) ?_⟩) <;> (conv => whnf)) | ((refine ⟨rfl, cmp_false (by decide) ?_⟩) <;> (conv => whnf)) | ((refine cmp_true rfl ?_) <;> (conv => whnf)) | ((refine ⟨rfl, cmp_true hlen ?_⟩) <;> (conv => whnf)) | (((with_reducible apply st_call (hrf)); (focus ((repeat' first|exact trivial|exact rfl|exact .inl rfl|exact .inr ⟨rfl,rfl⟩|refine And.intro ?_ ?_);done)); (focus (exact rfl)); (focus (exact rfl))) <;> (conv => whnf)) | (((with_reducible apply st_call (hsn)); (focus ((repeat' first|exact trivial|exact rfl|exact .inl rfl|exact .inr ⟨rfl,rfl⟩|refine And.intro ?_ ?_);done)); (focus (exact rfl)); (focus (exact rfl))) <;> (conv => whnf)) | fail))
   exact ⟨.inl rfl, rfl⟩
end Go.Proofs.YtiafggoaedifdaaGreatDoor.Fb
/- Cards: what reads of a type is a value that stands in memory as the walks without memory tell it; structs and slices however deep, types that hold themselves. Whatever program. -/
namespace Go.Proofs.YtiafggoaedifdaaGreatDoor
open Go.RowKit
set_option linter.unusedVariables false
def OpV (P : Program) (w : World) (n : Nat) (t : TypeId) (G : List V → Prop) : Prop := ∀ (H : Type) (enc : TypeId × Value → H) fuel, fuel ≤ n → ∀ cs y, DataW.trod enc P w 0 (fun _ => true) true fuel t cs = some y → ∃ l, RepL w (Lall w) l cs ∧ G l
theorem OpV.mono {P : Program} {w : World} {n m : Nat} {t : TypeId} {G : List V → Prop} (h : OpV P w n t G) (hm : m ≤ n) : OpV P w m t G := fun H enc fuel hf cs y hd => h H enc fuel (Nat.le_trans hf hm) cs y hd
theorem OpV.imp {P : Program} {w : World} {n : Nat} {t : TypeId} {G G' : List V → Prop} (h : OpV P w n t G) (hi : ∀ l, G l → G' l) : OpV P w n t G' := fun H enc fuel hf cs y hd => let ⟨l, h1, h2⟩ := h H enc fuel hf cs y hd; ⟨l, h1, hi l h2⟩
def GStr : List V → Prop := fun l => ∃ s : ByteArray, l = [.str s]
def GInt (k : IntKind) : List V → Prop := fun l => ∃ n : Int, l = [.int k n] ∧ (Lit.int k n).wf = true
def GBool : List V → Prop := fun l => ∃ b : Bool, l = [.bool b]
def GSl (G : List V → Prop) : List V → Prop := fun l => ∃ xs : List (List V), l = [.sl xs] ∧ ∀ c ∈ xs, G c
theorem opV_str {P : Program} {w : World} {n : Nat} {t : TypeId} (ht : P.underlying t = some .string) : OpV P w n t GStr := by
 intro H enc fuel _ cs y h
 cases fuel with
 | zero => simp [DataW.trod] at h
 | succ n =>
  unfold DataW.trod at h
  rw [ht] at h
  split at h <;> simp_all
  exact ⟨[.str _], ⟨_, [], rfl, rfl, rfl, rfl⟩, _, rfl⟩
theorem opV_int {P : Program} {w : World} {n : Nat} {t : TypeId} {k : IntKind} (ht : P.underlying t = some (.int k)) : OpV P w n t (GInt k) := by
 intro H enc fuel _ cs y h
 cases fuel with
 | zero => simp [DataW.trod] at h
 | succ n =>
  unfold DataW.trod at h
  rw [ht] at h
  split at h <;> simp_all
  obtain ⟨⟨h1, h2⟩, _⟩ := h
  subst h1
  exact ⟨[.int _ _], ⟨_, [], rfl, rfl, rfl, rfl⟩, _, rfl, h2⟩
theorem opV_bool {P : Program} {w : World} {n : Nat} {t : TypeId} (ht : P.underlying t = some .bool) : OpV P w n t GBool := by
 intro H enc fuel _ cs y h
 cases fuel with
 | zero => simp [DataW.trod] at h
 | succ n =>
  unfold DataW.trod at h
  rw [ht] at h
  split at h <;> simp_all
  rename_i b
  cases b
  ·exact ⟨[.bool false], ⟨_, [], rfl, rfl, rfl, rfl⟩, _, rfl⟩
  ·exact ⟨[.bool true], ⟨_, [], rfl, rfl, rfl, rfl⟩, _, rfl⟩
theorem opV_slice {P : Program} {w : World} {n : Nat} {t e : TypeId} {G : List V → Prop} (ht : P.underlying t = some (.slice e)) (hk0 : 0 < P.cellsOf e) (he : OpV P w n e G) : OpV P w (n + 1) t (GSl G) := by
 intro H enc fuel hf cs y h
 rcases DataW.trod_slice ht h with ⟨h0, _⟩ | ⟨a, len, cap, elems, rest, m, hfm, rfl, rfl, hb, hl, hm, hlen, hel, hsp, hns⟩
 ·subst h0
  exact ⟨[.sl []], ⟨_, [], rfl, rfl, ⟨none, 0, rfl, Nat.le_refl _, fun h => absurd rfl h⟩, rfl⟩, [], rfl, fun c hc => by cases hc⟩
 ·have each : ∀ j : Fin len, ∃ (l : List V) (ws : List Value), RepL w (Lall w) l ws ∧ G l ∧ ws.length = P.cellsOf e ∧ ∀ i u, ws[i]? = some u → w.cell? (a.add (j * P.cellsOf e + i)) = some u := fun j => by
   have h1 := hel j j.2
   rw [List.getElem?_eq_getElem (by omega), Option.bind_eq_some_iff] at h1
   obtain ⟨cs, hc, hd⟩ := h1
   obtain ⟨l, hx, hg⟩ := he H enc m (by omega) cs _ hd
   obtain ⟨_, hcl, hcell⟩ := cells_get hc
   exact ⟨l, cs, hx, hg, hcl, fun i u hu => by rw [← add_add]; exact hcell i u hu⟩
  have hw1 : ∀ (h : 0 < len), ∃ u, w.cell? a = some u := fun h => by
   obtain ⟨ws, h1, h2, h3, h4⟩ := (each ⟨0, h⟩).choose_spec
   exact ⟨_, by simpa [Addr.add] using h4 0 (ws[0]'(by omega)) (List.getElem?_eq_getElem _)⟩
  have hsp : ∀ (h : 0 < len), a = ⟨a.block, a.off, none⟩ := fun h => by
   obtain ⟨u, hu⟩ := hw1 h
   obtain ⟨b, o, sp⟩ := a
   cases sp with
   | none => rfl
   | some s =>
    unfold World.cell? at hu
    split at hu <;> simp at hu
  refine ⟨[.sl (List.ofFn fun j => (each j).choose)], ⟨_, [], rfl, rfl, ⟨some a, cap, by rw [List.length_ofFn], by rw [List.length_ofFn]; exact hl, fun hne => ?_⟩, rfl⟩, _, rfl, fun c hc => ?_⟩
  ·have hpos : 0 < len := by
    rcases Nat.eq_zero_or_pos len with h | h
    ·subst h; simp at hne
    ·exact h
   refine ⟨a.block, a.off, P.cellsOf e, congrArg some (hsp hpos), RepE.of_get _ _ fun j c hj => ?_⟩
   rw [List.getElem?_ofFn] at hj
   split at hj
   ·cases hj
    rename_i hjl
    obtain ⟨ws, h1, h2, h3, h4⟩ := (each ⟨j, hjl⟩).choose_spec
    refine ⟨by rw [← h1.length]; exact h3, RepC.of_get _ _ fun i x hx => ?_⟩
    obtain ⟨u, hu, ho, hr⟩ := h1.get hx
    have hcell := h4 i u hu
    rw [hsp hpos, add_plain'] at hcell
    rw [← Nat.add_assoc] at hcell
    exact ⟨u, ⟨u, hcell⟩, hcell, ho, hr⟩
   ·cases hj
  ·obtain ⟨j, rfl⟩ := List.mem_ofFn.1 hc
   obtain ⟨ws, h1, h2, h3, h4⟩ := (each j).choose_spec
   exact h2
def Cats : List (List V → Prop) → List V → Prop
 | [], l => l = []
 | G :: Gs, l => ∃ a b, l = a ++ b ∧ G a ∧ Cats Gs b
def Flds (P : Program) (w : World) (n : Nat) : Nat → List Field → List (List V → Prop) → Prop
 | _, [], [] => True
 | o, f :: fs, G :: Gs => f.offset = o ∧ OpV P w n f.type G ∧ Flds P w n (o + P.cellsOf f.type) fs Gs
 | _, _, _ => False
def total (P : Program) : List Field → Nat
 | [] => 0
 | f :: fs => P.cellsOf f.type + total P fs
theorem flds_rep {P : Program} {w : World} {n : Nat} {H : Type} {enc : TypeId × Value → H} {cs : List Value} : ∀ (fs : List Field) (Gs : List (List V → Prop)) (o : Nat), Flds P w n o fs Gs → (∀ f ∈ fs, ∃ m y, m ≤ n ∧ DataW.trod enc P w 0 (fun _ => true) true m f.type ((cs.drop f.offset).take (P.cellsOf f.type)) = some y) → cs.length = o + total P fs → ∃ l, RepL w (Lall w) l (cs.drop o) ∧ Cats Gs l
 | [], [], o, _, _, hl => ⟨[], by rw [total] at hl; rw [List.drop_of_length_le (by omega)]; rfl, rfl⟩
 | [], _ :: _, _, h, _, _ => h.elim
 | _ :: _, [], _, h, _, _ => h.elim
 | f :: fs, G :: Gs, o, ⟨ho, hG, hr⟩, ht, hl => by
  obtain ⟨m, y, hm, hy⟩ := ht f List.mem_cons_self
  obtain ⟨a, ra, ga⟩ := hG H enc m hm _ _ hy
  rw [total] at hl
  obtain ⟨b, rb, gb⟩ := flds_rep fs Gs (o + P.cellsOf f.type) hr (fun f' hf' => ht f' (List.mem_cons_of_mem _ hf')) (by omega)
  refine ⟨a ++ b, ?_, a, b, rfl, ga, gb⟩
  rw [ho] at ra
  have := ra.append rb
  rwa [show List.drop (o + P.cellsOf f.type) cs = (cs.drop o).drop (P.cellsOf f.type) by rw [List.drop_drop], List.take_append_drop] at this
theorem opV_struct {P : Program} {w : World} {n : Nat} {t : TypeId} {fs : Array Field} {Gs : List (List V → Prop)} (ht : P.underlying t = some (.struct fs)) (hc : P.cellsOf t = total P fs.toList) (hf : Flds P w n 0 fs.toList Gs) : OpV P w (n + 1) t (Cats Gs) := by
 intro H enc fuel hfu cs y h
 obtain ⟨xs, m, hm, _, hl, hx, hg⟩ := DataW.trod_struct ht h
 have := flds_rep (P := P) (w := w) (n := n) (enc := enc) (cs := cs) fs.toList Gs 0 hf (fun f hf => by
  obtain ⟨i, hi, rfl⟩ := List.mem_iff_getElem.1 hf
  have h1 := hg i fs.toList[i] (by rw [← Array.getElem?_toList, List.getElem?_eq_getElem hi])
  have hi' : i < xs.length := by rw [hx]; simpa using hi
  rw [List.getElem?_eq_getElem hi'] at h1
  exact ⟨m, _, by omega, h1⟩) (by rw [hl, hc, Nat.zero_add])
 simpa using this
theorem opV_arg {P : Program} {w : World} {t : TypeId} {G : List V → Prop} (h : ∀ n, OpV P w n t G) {H : Type} {enc : TypeId × Value → H} {v : Value} {d : DataW H} {ps : List MemPlace} (ht : DataW.Trod enc P w 0 (fun _ => true) true t v d ps) : ∃ l, RepL w (Lall w) l v.cells.toList ∧ G l := by
 obtain ⟨fuel, hf⟩ := ht
 exact h fuel H enc fuel (Nat.le_refl _) _ _ hf
end Go.Proofs.YtiafggoaedifdaaGreatDoor
/- filt, cards: what reads of a filter's type is a filter. -/
namespace Go.Proofs.YtiafggoaedifdaaGreatDoor.Fi
open Go.RowKit Fl
set_option linter.unusedVariables false
def GFlt : List V → Prop := fun l => ∃ f : Flt, l = cF f
theorem gstrs : ∀ xs : List (List V), (∀ c ∈ xs, GStr c) → ∃ a : List ByteArray, xs = a.map encS
 | [], _ => ⟨[], rfl⟩
 | c :: r, h => by
  obtain ⟨s, hs⟩ := h c List.mem_cons_self
  obtain ⟨a, ha⟩ := gstrs r (fun c hc => h c (List.mem_cons_of_mem _ hc))
  exact ⟨s :: a, by rw [hs, ha]; rfl⟩
theorem gflts : ∀ xs : List (List V), (∀ c ∈ xs, GFlt c) → ∃ a : List Flt, xs = cFs a
 | [], _ => ⟨[], rfl⟩
 | c :: r, h => by
  obtain ⟨s, hs⟩ := h c List.mem_cons_self
  obtain ⟨a, ha⟩ := gflts r (fun c hc => h c (List.mem_cons_of_mem _ hc))
  exact ⟨s :: a, by rw [hs, ha]; rfl⟩
theorem opV_filter (w : World) : ∀ n, OpV Tryz.prog w n 25 GFlt
 | 0 => fun H enc fuel hf cs y h => by
  obtain rfl : fuel = 0 := by omega
  simp [DataW.trod] at h
 | 1 => fun H enc fuel hf cs y h => by
  obtain ⟨xs, m, hm, _, hl, hx, hg⟩ := DataW.trod_struct Tryz.underlying25 h
  obtain rfl : m = 0 := by omega
  have := hg 0 _ rfl
  rw [List.getElem?_eq_getElem (by rw [hx]; decide)] at this
  simp [DataW.trod] at this
 | n + 2 => by
  have ih := opV_filter w n
  have hs := opV_struct (w := w) (n := n + 1) (Gs := [GInt .i64, GStr, GStr, GSl GStr, GStr, GSl GFlt]) Tryz.underlying25 (by kernel_rfl)
   ⟨rfl, opV_int Tryz.underlying3, by kernel_rfl, opV_str Tryz.underlying9, by kernel_rfl, opV_str Tryz.underlying9, by kernel_rfl, opV_slice Tryz.underlying22 (of_decide_eq_true (by kernel_rfl)) (opV_str Tryz.underlying9), by kernel_rfl, opV_str Tryz.underlying9, by kernel_rfl, opV_slice Tryz.underlying23 (of_decide_eq_true (by kernel_rfl)) ih, trivial⟩
  refine hs.imp fun l h => ?_
  obtain ⟨_, _, rfl, ⟨k, rfl, _⟩, _, _, rfl, ⟨n1, rfl⟩, _, _, rfl, ⟨v1, rfl⟩, _, _, rfl, ⟨xs, rfl, hxs⟩, _, _, rfl, ⟨f1, rfl⟩, _, _, rfl, ⟨ys, rfl, hys⟩, rfl⟩ := h
  obtain ⟨a, rfl⟩ := gstrs xs hxs
  obtain ⟨m, rfl⟩ := gflts ys hys
  exact ⟨.mk k n1 v1 a f1 m, rfl⟩
theorem filter_rep {w : World} {f : Flt} {cs : Array Value} (h : RepL w (Lall w) (cF f) (Value.agg cs).cells.toList) : Rep w (Lall w) (.agg (cG f)) (.agg cs) := ⟨cs, rfl, by rw [← cG_eq]; exact h⟩
end Go.Proofs.YtiafggoaedifdaaGreatDoor.Fi
