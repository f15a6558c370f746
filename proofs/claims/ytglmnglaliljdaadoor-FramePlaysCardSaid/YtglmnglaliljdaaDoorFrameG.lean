/- frame.(*Framer).pieces: the walk of the function that Feed ranges over. Conditions: the shape of memory that each theorem names. -/
import Derived.Test.YtglmnglaliljdaaDoorFrameF
import Derived.Test.YtglmnglaliljdaaDoorRng
import Derived.Test.YtglmnglaliljdaaDoorUpd
import Derived.Deep.LoopGhost
namespace Go.Proofs.YtglmnglaliljdaaDoor.Frame
open Go.RowKit Size
set_option linter.unusedVariables false
theorem FS.upd {w w' : World} {av : Nat → Prop} {f : Nat} {l : List UInt8} {a c : Int} {p : Nat → Addr} (h : FS w av f l a c p) {S : Nat → Prop} (hg : Upd S w w') (hf : ¬ S f) (hr : ∀ b, av b → ¬ S b) : FS w' av f l a c p := by
  obtain ⟨v, ev, hb, ⟨A, cp, e, hc, hm, hx⟩, he⟩ := h
  refine ⟨v, ev, hg.blk hb hf, ⟨A, cp, e, hc, hm, fun hl => ?_⟩, he⟩
  obtain ⟨b, o, e2, hav, hcell⟩ := hx hl
  exact ⟨b, o, e2, hav, fun j u hu => hg.cell (hcell j u hu) (hr b hav.1)⟩
/-- an error's number as Feed tells it -/
def codeOf (c : Int) : Int := if c = 1 then 0 else c
theorem errV_of (p : Nat → Addr) (a c : Int) (h : c = 1 ∨ c = 11 ∨ c = 20 ∨ c = 131) : ErrV p (codeOf c) (errOf p a c) := by
  rcases h with rfl | rfl | rfl | rfl
  · exact .inl ⟨rfl, .inr ⟨a, rfl⟩⟩
  · exact .inr (.inr (.inl ⟨rfl, a, rfl⟩))
  · exact .inr (.inl ⟨rfl, a, rfl⟩)
  · exact .inr (.inr (.inr ⟨rfl, a, rfl⟩))
theorem pieces_maker (f : Nat) (w : World) :
    Calls Tryd.prog 22 #[.pointer (some ⟨f, 0, none⟩)] w fun e w' => e = .returned (.func (.func 29) #[] #[.pointer (some ⟨w.heap.size, 0, none⟩)]) ∧ w.alloc (.cells #[.pointer (some ⟨f, 0, none⟩)] 25) = w' := by
  go_enter Tryd.func22, Tryd.ntmps22
  go_wp2
  go_ret
  exact ⟨rfl, rfl⟩
set_option maxRecDepth 100000 in
set_option maxHeartbeats 2000000 in
theorem iter {n l0 f Bx : Nat} {S : Nat → Prop} {av : Nat → Prop} {p : Nat → Addr} (hSf : ¬ S f) (hSx : ¬ S Bx) (hfx : f ≠ Bx) (hGf : GFree p f) (hSg : GFreeS p S) (J : List (List UInt8) → World → Prop)
    (hJ : ∀ pre W W', J pre W → W.grownBy W' (some f) → J pre W')
    (hY : ∀ pre x W, pre.length < n → J pre W → ∃ fn tmps assign body, (Instr.yield l0 #[.string ⟨x.toArray⟩]).run Tryd.prog W = .ok (.round l0 fn tmps assign body) W ∧ RoundIn Fence.wide 0 Tryd.prog l0 fn tmps assign body W (fun e W' => e = .returned (.bool true) ∧ J (pre ++ [x]) W' ∧ Upd S W W'))
    (l : List UInt8) (a : Int) (hln : l.length < n) (ha : 0 ≤ a) (hal : a + l.length ≤ 1000000000) (W : World) (h0 : J [] W) (hF : FS W (fun b => av b ∧ ¬ S b) f l a 0 p) (hB : W.cell? ⟨Bx, 0, none⟩ = some (.pointer (some ⟨f, 0, none⟩))) (hG : Globs W p) :
    Calls Tryd.prog 29 #[.func (.yield l0) #[] #[], .pointer (some ⟨Bx, 0, none⟩)] W fun e W' => (∃ v, e = .returned v) ∧ J (run n l).1 W' ∧ FS W' (fun b => av b ∧ ¬ S b) f (run n l).2.1 (a + (run n l).2.2.1) (codeOf (run n l).2.2.2) p ∧ Upd (fun k => S k ∨ k = f) W W' := by
  go_enter Tryd.func29, Tryd.ntmps29
  go_wp2
  go_step3
  go_wp2
  go_step3
  go_wp2
  go_loopg [3] n (fun gk v3 wr => Aside (∃ pre l1 a1, (run n l).1 = pre ++ (run gk l1).1 ∧ (run n l).2.1 = (run gk l1).2.1 ∧ a + (run n l).2.2.1 = a1 + (run gk l1).2.2.1 ∧ (run n l).2.2.2 = (run gk l1).2.2.2 ∧ pre.length + gk = n ∧ l1.length < gk ∧ 0 ≤ a1 ∧ a1 + l1.length ≤ 1000000000 ∧ J pre wr ∧ FS wr (fun b => av b ∧ ¬ S b) f l1 a1 0 p ∧ Globs wr p ∧ Upd (fun k => S k ∨ k = f) W wr))
  case atStart => exact ⟨⟨[], l, a, rfl, rfl, rfl, rfl, by simp, hln, ha, hal, h0, hF, hG, Upd.refl _ _⟩⟩
  case round =>
    obtain ⟨pre, l1, a1, e1, e2, e3, e4, hpn, hl1, ha1, hal1, hJ1, hF1, hG1, hU1⟩ := hrel.out
    have bx := hU1.cell hB (by rintro (h | h); exact hSx h; exact hfx h.symm)
    have HL := Aside.mk (long hF1 hG1)
    have HF := Aside.mk hF1
    have HG := Aside.mk hG1
    have HJ1 := Aside.mk hJ1
    have HU := Aside.mk hU1
    have HPN := Aside.mk hpn
    have HR := Aside.mk (And.intro e1 (And.intro e2 (And.intro e3 e4)))
    have RG := longOf_range l1
    obtain ⟨m, rfl⟩ : ∃ m, gk = m + 1 := ⟨gk - 1, by omega⟩
    clear hF1 hG1 hJ1 hU1 e1 e2 e3 e4 hpn hrel hF hG hB h0
    have LC := longOf_code l1
    obtain ⟨k, c, hkc⟩ : ∃ k c, longOf l1 = (k, c) := ⟨_, _, rfl⟩
    have hrun : run (m + 1) l1 = if c ≠ 0 then ([], l1, 0, c) else if l1.length < k.toNat then ([], l1, 0, 1) else (l1.take k.toNat :: (run m (l1.drop k.toNat)).1, (run m (l1.drop k.toNat)).2.1, k.toNat + (run m (l1.drop k.toNat)).2.2.1, (run m (l1.drop k.toNat)).2.2.2) := by
      simp only [run, hkc]
    rw [hkc] at HL RG LC
    have HRUN := Aside.mk hrun
    clear hkc hrun
    by_cases hc : c = 0
    · subst hc
      rw [if_neg (by simp)] at HRUN
      have hk2 : 2 ≤ k := RG.2.2 rfl
      have hk5 : k ≤ 5000 := RG.2.1
      clear RG LC
      have hce : errOf p a1 0 = .nilIface := if_pos rfl
      rw [hce] at HL
      clear hce
      by_cases hlk : l1.length < k.toNat
      · rw [if_pos hlk] at HRUN
        have hlk2 : (l1.length : Int) < k := by omega
        clear hlk
        have HV := Aside.mk (errV_of p a1 1 (by omega))
        go_wp2_with fail
        refine HL.out.mono ?_
        rintro e w1 ⟨rfl, hb⟩
        obtain ⟨v, ev, hblk, ⟨A, cp, rfl, hcap, hcm, hxx⟩, _⟩ := (HF.out.below hb)
        have HRB := Aside.mk (show RB w1 (fun b => (av b ∧ ¬ S b) ∧ b ≠ f) (.slice A l1.length cp) l1 from ⟨A, cp, rfl, hcap, hcm, hxx⟩)
        have bx1 := cell_below bx hb
        have c0 : w1.cell? ⟨f, 0, none⟩ = some (.slice A l1.length cp) := cel hblk 0 rfl
        have c1 : w1.cell? ⟨f, 1, none⟩ = some (.int .i64 a1) := cel hblk 1 rfl
        have f2 := frz hblk 2
        have c2 : w1.cell? ⟨f, 2, none⟩ = some ev := cel hblk 2 rfl
        have k0 := (HG.out.below hb).cell 3 (by decide)
        have HBL := Aside.mk hblk
        have HB1 := Aside.mk hb
        clear hb hblk bx hxx hcm
        go_wp2
        go_quiet (fail)
        go_wp2
        rw [Exit.noGoto_normal]
        go_end0
        have hgr : wr.grownBy ((w1.drewN nq).setCell ⟨f, 2, none⟩ (.iface 62 (.agg #[.int .i64 a1, .iface 120 (.pointer (some (p 3)))]))) (some f) := grown_trans (grown_of_below (below_then HB1.out (below_drewN _ _)) _) (set_grown _ _ _ _)
        refine ⟨⟨_, rfl⟩, ?_, ?_, ?_⟩
        · rw [HR.out.1, HRUN.out, List.append_nil]
          exact hJ _ _ _ HJ1.out hgr
        · rw [HR.out.2.1, HR.out.2.2.1, HR.out.2.2.2, HRUN.out]
          refine ⟨_, _, by rw [Int.natCast_zero, Int.add_zero]; exact set_blk (w := w1.drewN nq) HBL.out 2 _, ?_, HV.out⟩
          exact (HRB.out.below (below_drewN _ nq)).grown (set_grown _ _ _ _) (fun b hb => by simpa using hb.2)
        · exact HU.out.trans (Upd.of_grown hgr (.inr rfl))
      · rw [if_neg hlk] at HRUN
        obtain ⟨kn, rfl⟩ : ∃ kn : Nat, k = kn := ⟨k.toNat, by omega⟩
        rw [Int.toNat_natCast] at HRUN hlk
        have hkl : kn ≤ l1.length := by omega
        clear hlk
        refine (wpIn_wide (n := 1)).1 ?_
        gi_wp2_with fail
        refine ⟨trivial, callsIn_wide.2 (HL.out.mono ?_)⟩
        rintro e w1 ⟨rfl, hb⟩
        have HF1 := Aside.mk (HF.out.below hb)
        have HG1 := Aside.mk (HG.out.below hb)
        have HB1 := Aside.mk hb
        obtain ⟨v, ev, hblk, ⟨A, cp, rfl, hcap, hcm, hxx⟩, _⟩ := HF1.out
        have bx1 := cell_below bx hb
        have c0 : w1.cell? ⟨f, 0, none⟩ = some (.slice A l1.length cp) := cel hblk 0 rfl
        have hkc : kn ≤ cp := by omega
        have hlen : ((l1.length : Int) < (kn : Int)) = False := by simp; omega
        have hconv : (convert 45 9 (.slice A kn cp)).run Tryd.prog w1 = .ok (.string ⟨(l1.take kn).toArray⟩) w1 :=
          RB.str (w := w1) (av := fun _ => True) (l := l1.take kn) (by rw [List.length_take]; omega) (fun hne => by
            obtain ⟨b, o, e, _, hcl⟩ := hxx (by rintro rfl; simp at hne)
            exact ⟨b, o, e, trivial, fun j u hu => by
              rw [List.getElem?_take] at hu
              split at hu
              · exact hcl j u hu
              · cases hu⟩)
        clear hb hblk bx hxx hcm HL HF HG
        gi_wp2_with fail
        refine ⟨trivial, callsIn_wide.2 ((drop HF1.out kn hkl ha1 (by omega)).mono ?_)⟩
        rintro e w2 ⟨⟨v2, rfl⟩, hgr, hF2⟩
        have HGR := Aside.mk (grown_trans (grown_of_below HB1.out (some f)) hgr)
        have HF2 := Aside.mk hF2
        have HG2 := Aside.mk (HG1.out.grown hGf hgr)
        have bx2 := cell_grown bx1 hgr (by simpa using fun e => hfx e.symm)
        obtain ⟨fn, tm, asg, bo, hy, hR⟩ := hY pre (l1.take kn) w2 (by have := HPN.out; omega) (hJ _ _ _ HJ1.out HGR.out)
        have HRR := Aside.mk hR
        clear hgr hF2 bx1 c0 hconv hR
        gi_wp2_with fail
        refine HRR.out.mono ?_
        rintro e w3 ⟨rfl, hJ3, hU3⟩
        have HJ3 := Aside.mk hJ3
        have HU3 := Aside.mk hU3
        clear hJ3 hU3 hy
        gi_wp2
        go_roundg m
        case measure => omega
        case rel =>
          have hld : (l1.drop kn).length + kn = l1.length := by rw [List.length_drop]; omega
          refine ⟨⟨pre ++ [l1.take kn], l1.drop kn, a1 + kn, ?_, ?_, ?_, ?_, by have := HPN.out; simp; omega, by omega, by omega, by omega, HJ3.out, HF2.out.upd HU3.out hSf (fun b hb => hb.2), Globs.upd HG2.out hSg HU3.out, ?_⟩⟩
          · rw [HR.out.1, HRUN.out]; simp
          · rw [HR.out.2.1, HRUN.out]
          · rw [HR.out.2.2.1, HRUN.out]; push_cast; omega
          · rw [HR.out.2.2.2, HRUN.out]
          · exact HU.out.trans ((Upd.of_grown HGR.out (.inr rfl)).trans (HU3.out.mono (fun k h => .inl h)))
    · rw [if_pos hc] at HRUN
      obtain ⟨vv, hce⟩ : ∃ vv, errOf p a1 c = .iface 62 vv := ⟨_, if_neg hc⟩
      have HV := Aside.mk (errV_of p a1 c (by omega))
      rw [hce] at HL HV
      clear hce
      go_wp2_with fail
      refine HL.out.mono ?_
      rintro e w1 ⟨rfl, hb⟩
      obtain ⟨v, ev, hblk, hrb, _⟩ := (HF.out.below hb)
      have bx1 := cell_below bx hb
      have f2 := frz hblk 2
      have c2 : w1.cell? ⟨f, 2, none⟩ = some ev := cel hblk 2 rfl
      have HBL := Aside.mk hblk
      have HRB := Aside.mk hrb
      have HB1 := Aside.mk hb
      clear hb hblk hrb bx LC RG
      go_wp2
      rw [Exit.noGoto_normal]
      go_end0
      refine ⟨⟨_, rfl⟩, ?_, ?_, ?_⟩
      · rw [HR.out.1, HRUN.out, List.append_nil]
        exact hJ _ _ _ HJ1.out (grown_trans (grown_of_below HB1.out _) (set_grown _ _ _ _))
      · rw [HR.out.2.1, HR.out.2.2.1, HR.out.2.2.2, HRUN.out]
        refine ⟨v, _, by rw [Int.natCast_zero, Int.add_zero]; exact set_blk HBL.out 2 _, ?_, HV.out⟩
        exact HRB.out.grown (set_grown _ _ _ _) (fun b hb => by simpa using hb.2)
      · exact HU.out.trans (Upd.of_grown (grown_trans (grown_of_below HB1.out _) (set_grown _ _ _ _)) (.inr rfl))
end Go.Proofs.YtglmnglaliljdaaDoor.Frame
