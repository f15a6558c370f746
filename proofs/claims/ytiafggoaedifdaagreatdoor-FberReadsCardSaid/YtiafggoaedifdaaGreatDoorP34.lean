/- Several texts, one behind the other. The statement FberNots of latinerlaw09, walked. tlv, cards: what reads of a tree's type is a tree. -/
import Derived.Test.YtiafggoaedifdaaGreatDoorP32
import Derived.Test.YtiafggoaedifdaaGreatDoorP24
/- The statement FberNots of latinerlaw09, walked. -/
namespace Go.Proofs.YtiafggoaedifdaaGreatDoor.Fb
open Go.RowKit Go.Shelf Go.Lib Fl Tl
open Fi (one_arg cG cF cFs cG_eq midF midFs encS f0)
set_option linter.unusedVariables false
variable (p : Nat → Addr)
theorem cG_nots (i : Nat) : cG (nots (i + 1)) = [.int .i64 2, .str (bt' []), .str (bt' []), .sl [], .str (bt' []), .sl [cG (nots i)]] := by
 rw [← cG_eq (nots i)]
 rfl
set_option maxHeartbeats 8000000 in
theorem nots_law (n : Int) : Fn Tryz.prog (envX p) 12 [.v (.int .i64 n)] (.v (.bool true)) := by
 obtain ⟨N, hN9, hN⟩ : ∃ N : Nat, N ≤ 9 ∧ (if (9 : Int) < (if n < 0 then 0 else n) then 9 else (if n < 0 then 0 else n)) = (N : Nat) := by
  refine ⟨(if (9 : Int) < (if n < 0 then 0 else n) then 9 else (if n < 0 then 0 else n)).toNat, ?_, ?_⟩
  ·split <;> split <;> omega
  ·split <;> split <;> omega
 refine fn_prog tabOk mixed Tryz.f12 Tryz.func12 (by kernel_rfl) (by kernel_rfl) ?_
 conv => whnf
 (refine st_call (shown_fn p) ?_ rfl rfl ?_; (focus ((repeat' first|exact trivial|exact rfl|exact .inl rfl|exact .inr ⟨rfl,rfl⟩|refine And.intro ?_ ?_);done)); conv => whnf)
 refine ⟨_, rfl, ?_⟩
 conv => whnf
 refine ⟨((N : Nat) : Int), hN, ?_⟩
 conv => whnf
 refine ⟨Nat, fun i => ⟨71, [(0, .v (.int .i64 (N : Nat))), (3, .v (.bool true)), (4, .ptr 4 0), (5, .v (.int .i64 (i : Nat)))], [(4, (cG (nots i)).map .v)], []⟩, fun i => i ≤ N, fun i => N - i, ⟨0, [], Nat.zero_le _, ?_⟩, fun i hi => ?_⟩
 ·(focus ((repeat' first|exact trivial|exact rfl|exact .inl rfl|exact .inr ⟨rfl,rfl⟩|refine And.intro ?_ ?_);done))
 conv => whnf
 refine ⟨rfl, cmp_split (fun h => ?_) (fun h => ?_)⟩
 ·try dsimp only at h
  conv => whnf
  refine ⟨rfl, st_succ (by omega) ?_⟩
  conv => whnf
  refine ⟨i + 1, [], by omega, by dsimp only; omega, ?_⟩
  dsimp only
  rw [cG_nots]
  (focus ((repeat' first|exact trivial|exact rfl|exact .inl rfl|exact .inr ⟨rfl,rfl⟩|refine And.intro ?_ ?_);done))
 ·try dsimp only at h
  have hiN : i = N := by omega
  subst hiN
  have hmid := nots_mid i
  have hcnt : (preF 1 (nots i)).length ≤ 900000000 := Nat.le_trans (nots_cnt i (by omega)) (by decide)
  have hen := Encode_fn p (nots i) hmid hcnt
  have hr := Fi.right_fn p (nots i) hmid hcnt
  rw [nots_right i (by omega)] at hr
  conv => whnf
  by_cases h5 : i ≤ 5
  ·have hR : rightF 1 (nots i) = true := by rw [nots_right i (by omega)]; exact decide_eq_true h5
   have hR2 := nots_rightN i (by omega)
   have hsz := nots_len i (by omega)
   rw [show encO (nots i) = some (bt' (layN (treeF (nots i)))) from by unfold encO; rw [if_pos ⟨hR, hR2⟩]] at hen
   unfold encR at hen
   dsimp only at hen
   have hde := Decode_fn p (bt' (layN (treeF (nots i)))) (Nat.le_trans (lay_size hR2) (by decide))
   rw [decO_lay hR hR2] at hde
   unfold rdT at hde
   dsimp only at hde
   have hsm := Fi.same_fn (X := envX p) (nots i) (nots i) hmid hmid
   rw [sameF_refl] at hsm
   have hlen : (((bt' (layN (treeF (nots i)))).size : Nat) : Int) = ((3 + 2 * i : Nat) : Int) := by rw [size_bt, hsz]
   (refine st_call hen ?_ rfl rfl ?_; (focus ((repeat' first|exact trivial|exact rfl|exact .inl rfl|exact .inr ⟨rfl,rfl⟩|refine And.intro ?_ ?_);done)); conv => whnf)
   (refine st_call hde ?_ rfl rfl ?_; (focus ((repeat' first|exact trivial|exact rfl|exact .inl rfl|exact .inr ⟨rfl,rfl⟩|refine And.intro ?_ ?_);done)); conv => whnf)
   refine ⟨rfl, cmp_false (by omega) ?_⟩
   conv => whnf
   refine ⟨rfl, cmp_true rfl ?_⟩
   conv => whnf
   refine st_times 2 i (by omega) ?_
   conv => whnf
   refine st_add 3 (2 * i) (by omega) ?_
   conv => whnf
   refine ⟨rfl, cmp_true hlen ?_⟩
   conv => whnf
   refine ⟨rfl, cmp_true rfl ?_⟩
   conv => whnf
   (refine st_call hsm ?_ rfl rfl ?_; (focus ((repeat' first|exact trivial|exact rfl|exact .inl rfl|exact .inr ⟨rfl,rfl⟩|refine And.intro ?_ ?_);done)); conv => whnf)
   exact ⟨.inl rfl, rfl⟩
  ·rw [decide_eq_false h5] at hr
   rw [show encO (nots i) = none from by unfold encO; rw [if_neg (fun e => by have := e.1; rw [nots_right i (by omega), decide_eq_false h5] at this; cases this)]] at hen
   unfold encR at hen
   dsimp only at hen
   (refine st_call hen ?_ rfl rfl ?_; (focus ((repeat' first|exact trivial|exact rfl|exact .inl rfl|exact .inr ⟨rfl,rfl⟩|refine And.intro ?_ ?_);done)); conv => whnf)
   (refine st_call (dec_nil p) ?_ rfl rfl ?_; (focus ((repeat' first|exact trivial|exact rfl|exact .inl rfl|exact .inr ⟨rfl,rfl⟩|refine And.intro ?_ ?_);done)); conv => whnf)
   refine ⟨rfl, cmp_true (by omega) ?_⟩
   conv => whnf
   (repeat' (first | ((refine ⟨rfl, cmp_true rfl ?_⟩) <;> (conv => whnf)) | ((refine ⟨rfl, cmp_true (by decide) ?_⟩) <;> (conv => whnf)) | (((with_reducible apply st_call (hr)); (focus ((repeat' first|exact trivial|exact rfl|exact .inl rfl|exact .inr ⟨rfl,rfl⟩|refine And.intro ?_ ?_);done)); (focus (exact rfl)); (focus (exact rfl))) <;> (conv => whnf)) | fail))
   exact ⟨.inl rfl, rfl⟩
end Go.Proofs.YtiafggoaedifdaaGreatDoor.Fb
/- tlv, cards: what reads of a tree's type is a tree. -/
namespace Go.Proofs.YtiafggoaedifdaaGreatDoor.Tl
open Go.RowKit
set_option linter.unusedVariables false
def GNd : List V → Prop := fun l => ∃ f : Nd, l = cN f
theorem gnds : ∀ xs : List (List V), (∀ c ∈ xs, GNd c) → ∃ a : List Nd, xs = cNs a
 | [], _ => ⟨[], rfl⟩
 | c :: r, h => by
  obtain ⟨s, hs⟩ := h c List.mem_cons_self
  obtain ⟨a, ha⟩ := gnds r (fun c hc => h c (List.mem_cons_of_mem _ hc))
  exact ⟨s :: a, by rw [hs, ha]; rfl⟩
theorem opV_node (w : World) : ∀ n, OpV Tryz.prog w n 46 GNd
 | 0 => fun H enc fuel hf cs y h => by
  obtain rfl : fuel = 0 := by omega
  simp [DataW.trod] at h
 | 1 => fun H enc fuel hf cs y h => by
  obtain ⟨xs, m, hm, _, hl, hx, hg⟩ := DataW.trod_struct Tryz.underlying46 h
  obtain rfl : m = 0 := by omega
  have := hg 0 _ rfl
  rw [List.getElem?_eq_getElem (by rw [hx]; decide)] at this
  simp [DataW.trod] at this
 | n + 2 => by
  have ih := opV_node w n
  have hs := opV_struct (w := w) (n := n + 1) (Gs := [GInt .i64, GStr, GSl GNd]) Tryz.underlying46 (by kernel_rfl)
   ⟨rfl, opV_int Tryz.underlying3, by kernel_rfl, opV_str Tryz.underlying9, by kernel_rfl, opV_slice Tryz.underlying44 (of_decide_eq_true (by kernel_rfl)) ih, trivial⟩
  refine hs.imp fun l h => ?_
  obtain ⟨_, _, rfl, ⟨k, rfl, _⟩, _, _, rfl, ⟨n1, rfl⟩, _, _, rfl, ⟨ys, rfl, hys⟩, rfl⟩ := h
  obtain ⟨m, rfl⟩ := gnds ys hys
  exact ⟨.mk k n1 m, rfl⟩
theorem node_rep {w : World} {f : Nd} {cs : Array Value} (h : RepL w (Lall w) (cN f) (Value.agg cs).cells.toList) : Rep w (Lall w) (.agg (cM f)) (.agg cs) := ⟨cs, rfl, by rw [← cM_eq]; exact h⟩
end Go.Proofs.YtiafggoaedifdaaGreatDoor.Tl
