/- Several texts, one behind the other. tlv, walked: trees read. Conditions: texts of at most 10^8 bytes. tlv, walked: trees of texts. Conditions: texts of at most 10^8 bytes. fber, walked: filters of trees, of texts. Conditions: trees that are not too large. fber, walked: Read, Encode, Decode. Conditions: trees that are not too large; texts of at most 10^8 bytes. -/
import Derived.Test.YtiafggoaedifdaaGreatDoorP30
/- tlv, walked: trees read. Conditions: texts of at most 10^8 bytes. -/
namespace Go.Proofs.YtiafggoaedifdaaGreatDoor.Tl
open Go.RowKit Go.Shelf Go.Lib
open Fl (bl bt' bl_bt bl_of size_bl)
set_option linter.unusedVariables false
def n0 : Nd := .mk 0 (bt' []) []
theorem drop_suf {L r : List UInt8} {j : Nat} (h : L.drop j = r) : L.drop (L.length - r.length) = r := by
 rw [← h, List.length_drop]
 rcases Nat.lt_or_ge L.length j with hj | hj
 ·rw [List.drop_eq_nil_of_le (by omega : L.length ≤ j), List.drop_eq_nil_of_le (by omega)]
 ·rw [show L.length - (L.length - j) = j by omega]
theorem body_at {L : List UInt8} {a k e : Nat} {body rest : List UInt8} (he : e ≤ L.length) (h : ((L.take e).drop a).drop k = body ++ rest) (ha : a ≤ e) : (L.take (e - rest.length)).drop (e - rest.length - body.length) = body ∧ a ≤ e - rest.length - body.length ∧ body.length + rest.length ≤ e - a ∧ e - rest.length - body.length + body.length = e - rest.length := by
 have hlen := congrArg List.length h
 rw [List.length_drop, List.length_drop, List.length_take, List.length_append, Nat.min_eq_left he] at hlen
 have hle : (L.take e).length = e := by rw [List.length_take]; omega
 rw [List.drop_drop] at h
 have h2 := drop_suf h
 rw [hle, List.length_append] at h2
 refine ⟨?_, by omega, by omega, by omega⟩
 rw [show e - (body.length + rest.length) = e - rest.length - body.length by omega] at h2
 have h3 := congrArg (List.take body.length) h2
 rw [List.take_left, List.drop_take] at h3
 rw [List.drop_take]
 rw [List.take_take] at h3
 refine Eq.trans ?_ h3
 congr 1
 omega
theorem bl_ext2 (s : ByteArray) (i j : Nat) : bl (s.extract i j) = ((bl s).take j).drop i := by
 show (s.extract i j).data.toList = _
 rw [Lib.extract_data, List.drop_take]
 try rfl
variable (p : Nat → Addr)
def TrOk (o : Except TE (Nd × List UInt8 × Nat)) (s : ByteArray) (e : Nat) (r : T) (css' : List (List T)) : Prop := match o with
 | .ok (n, rest, c') => r = .tup [.v (.agg (cM n)), .v .nili] ∧ css' = [rC s (e - rest.length) c']
 | .error er => ∃ (n : Int) (a' c' : Nat), r = .tup [.v (.agg (cM n0)), .v (tErr n (teV p er))] ∧ css' = [rC s a' c']
theorem teV_ifc (e : TE) : ∃ t x, teV p e = .ifc t x := by cases e <;> exact ⟨_, _, rfl⟩
set_option maxHeartbeats 8000000 in
theorem tree_fn (s : ByteArray) (hs : s.size ≤ 100000000) : ∀ (m : Nat), m ≤ 12 → ∀ (e a c : Nat), e ≤ s.size → a ≤ e → c ≤ 200 → ∃ r css', TrOk p (rdN m c (((bl s).take e).drop a)) s e r css' ∧ FnM Tryz.prog (envX p) 113 [rC s a c] [.ptr 0 0, .v (.int .i64 (e : Nat)), .v (.int .i64 ((13 - m : Nat) : Int))] r css' := by
 intro m
 induction m with
 | zero =>
  intro hm e a c he ha hc
  obtain ⟨r, css', ho, hf⟩ := head_fn p s hs e a c 0 he ha (by omega) hm
  have hh : hdN 0 c (((bl s).take e).drop a) = .error .node := by
   unfold hdN
   split
   ·rfl
   ·rfl
  rw [hh] at ho
  obtain ⟨n, a', rfl, rfl⟩ := ho
  refine ⟨.tup [.v (.agg (cM n0)), .v (tErr n (nodeV p))], [rC s a' (c + 1)], ?_, ?_⟩
  ·rw [rdN, hh]
   exact ⟨_, _, _, rfl, rfl⟩
  refine fnM_prog tabOk mixed Tryz.f113 Tryz.func113 (by kernel_rfl) (by kernel_rfl) rfl rfl rfl rfl ?_
  conv => whnf
  (refine st_callM [76] (hf) rfl ?_ ?_ rfl ?_; (focus ((repeat' first|exact trivial|exact rfl|exact .inl rfl|exact .inr ⟨rfl,rfl⟩|refine And.intro ?_ ?_);done)); (focus ((repeat' first|exact trivial|exact rfl|exact .inl rfl|exact .inr ⟨rfl,rfl⟩|refine And.intro ?_ ?_);done)); conv => whnf)
  (focus ((repeat' first|exact trivial|exact rfl|exact .inl rfl|exact .inr ⟨rfl,rfl⟩|refine And.intro ?_ ?_);done))
 | succ m ih =>
  intro hm e a c he ha hc
  have ih := ih (by omega)
  obtain ⟨r, css', ho, hf⟩ := head_fn p s hs e a c (m + 1) he ha (by omega) hm
  cases hh : hdN (m + 1) c (((bl s).take e).drop a) with
  | error er =>
   rw [hh] at ho
   obtain ⟨n, a', rfl, rfl⟩ := ho
   refine ⟨.tup [.v (.agg (cM n0)), .v (tErr n (teV p er))], [rC s a' (c + 1)], ?_, ?_⟩
   ·rw [rdN, hh]
    exact ⟨_, _, _, rfl, rfl⟩
   refine fnM_prog tabOk mixed Tryz.f113 Tryz.func113 (by kernel_rfl) (by kernel_rfl) rfl rfl rfl rfl ?_
   conv => whnf
   (refine st_callM [76] (hf) rfl ?_ ?_ rfl ?_; (focus ((repeat' first|exact trivial|exact rfl|exact .inl rfl|exact .inr ⟨rfl,rfl⟩|refine And.intro ?_ ?_);done)); (focus ((repeat' first|exact trivial|exact rfl|exact .inl rfl|exact .inr ⟨rfl,rfl⟩|refine And.intro ?_ ?_);done)); conv => whnf)
   (focus ((repeat' first|exact trivial|exact rfl|exact .inl rfl|exact .inr ⟨rfl,rfl⟩|refine And.intro ?_ ?_);done))
  | ok q =>
   obtain ⟨t, body, rest⟩ := q
   rw [hh] at ho
   obtain ⟨rfl, rfl⟩ := ho
   obtain ⟨_, ht, _, hc1, _⟩ := hdN_le hh
   obtain ⟨k, hk⟩ := hdN_suf hh
   obtain ⟨b1, b2, b3, b4⟩ := body_at (L := bl s) (by rw [size_bl]; exact he) hk ha
   have hin := inner_fn (X := envX p) t ht
   cases hi : innerN t
   ·rw [hi] at hin
    have hdata : s.extract (e - rest.length - body.length) (e - rest.length) = bt' body := by
     rw [← bl_bt (s.extract _ _), bl_ext2, b1]
    refine ⟨.tup [.v (.agg (cM (.mk t (bt' body) []))), .v .nili], [rC s (e - rest.length) (c + 1)], ?_, ?_⟩
    ·rw [rdN, hh]
     dsimp only
     rw [if_neg (by rw [hi]; decide)]
     exact ⟨rfl, rfl⟩
    refine fnM_prog tabOk mixed Tryz.f113 Tryz.func113 (by kernel_rfl) (by kernel_rfl) rfl rfl rfl rfl ?_
    conv => whnf
    (refine st_callM [76] (hf) rfl ?_ ?_ rfl ?_; (focus ((repeat' first|exact trivial|exact rfl|exact .inl rfl|exact .inr ⟨rfl,rfl⟩|refine And.intro ?_ ?_);done)); (focus ((repeat' first|exact trivial|exact rfl|exact .inl rfl|exact .inr ⟨rfl,rfl⟩|refine And.intro ?_ ?_);done)); conv => whnf)
    (refine st_call hin ?_ rfl rfl ?_; (focus ((repeat' first|exact trivial|exact rfl|exact .inl rfl|exact .inr ⟨rfl,rfl⟩|refine And.intro ?_ ?_);done)); conv => whnf)
    refine ⟨none, by kernel_rfl, ?_⟩; conv => whnf
    refine st_cut (e - rest.length - body.length) (e - rest.length) rfl rfl (by omega) (by omega) ?_
    rw [hdata]
    conv => whnf
    (focus ((repeat' first|exact trivial|exact rfl|exact .inl rfl|exact .inr ⟨rfl,rfl⟩|refine And.intro ?_ ?_);done))
   ·rw [hi] at hin
    have hrd : rdN (m + 1) c (((bl s).take e).drop a) = match kidsA (rdN m) (c + 1) body with
      | .error e => .error e
      | .ok (ks, c') => .ok (.mk t (bt' []) ks, rest, c') := by
     rw [rdN, hh]
     dsimp only
     rw [if_pos hi]
     rfl
    rw [hrd]
    have hto : e - rest.length ≤ s.size := by omega
    generalize hT : e - rest.length = to at *
    have hlen : ∀ z, (((bl s).take to).drop z).length = to - z := fun z => by
     rw [List.length_drop, List.length_take, size_bl]; omega
    have hnext : ∀ {z c0 : Nat} {x : Nd} {r : List UInt8} {c1 : Nat}, z ≤ to → rdN m c0 (((bl s).take to).drop z) = .ok (x, r, c1) → ((bl s).take to).drop (to - r.length) = r ∧ z < to - r.length ∧ to - r.length ≤ to ∧ c1 ≤ 200 := fun {z c0 x r c1} hz hd => by
     have h1 := rd_le m c0 (((bl s).take to).drop z)
     have h2 := rd_cnt m c0 (((bl s).take to).drop z)
     rw [hd] at h1 h2
     obtain ⟨j, hj⟩ := rd_suf m _ _ _ _ _ hd
     rw [List.drop_drop] at hj
     have h3 := drop_suf hj.symm
     have h4 : ((bl s).take to).length = to := by rw [List.length_take, size_bl]; omega
     rw [h4] at h3
     have h5 := h1.2
     rw [hlen] at h5
     exact ⟨h3, by omega, by omega, h2.2⟩
    have hdeep : 13 - (m + 1) + 1 = 13 - m := by omega
    cases hk : kidsA (rdN m) (c + 1) body with
    | ok q =>
     obtain ⟨ks, c'⟩ := q
     refine ⟨.tup [.v (.agg (cM (.mk t (bt' []) ks))), .v .nili], [rC s to c'], ⟨rfl, by rw [hT]⟩, ?_⟩
     refine fnM_prog tabOk mixed Tryz.f113 Tryz.func113 (by kernel_rfl) (by kernel_rfl) rfl rfl rfl rfl ?_
     conv => whnf
     (refine st_callM [76] (hf) rfl ?_ ?_ rfl ?_; (focus ((repeat' first|exact trivial|exact rfl|exact .inl rfl|exact .inr ⟨rfl,rfl⟩|refine And.intro ?_ ?_);done)); (focus ((repeat' first|exact trivial|exact rfl|exact .inl rfl|exact .inr ⟨rfl,rfl⟩|refine And.intro ?_ ?_);done)); conv => whnf)
     (refine st_call hin ?_ rfl rfl ?_; (focus ((repeat' first|exact trivial|exact rfl|exact .inl rfl|exact .inr ⟨rfl,rfl⟩|refine And.intro ?_ ?_);done)); conv => whnf)
     refine ⟨List Nd × Nat × Nat, fun x => ⟨76, [(0, .ptr 76 0), (2, .v (.int .i64 ((13 - (m + 1) : Nat) : Int))), (6, .ptr 6 0), (9, .v (.int .i64 (to : Nat))), (11, .ptr 11 0)], [(76, rC s x.2.1 x.2.2), (6, [.v (.int .i64 0), .v (.str (bt' [])), .v .nils]), (11, [.v (.int .i64 (t : Nat)), .v (.str (bt' [])), .own 73 46 (x.1.map cN)])], [(73, some 46)]⟩, fun x => x.1.length ≤ x.2.1 ∧ x.2.1 ≤ to ∧ x.2.2 ≤ 200 ∧ ∃ l2, kidsA (rdN m) x.2.2 (((bl s).take to).drop x.2.1) = .ok (l2, c') ∧ ks = x.1 ++ l2, fun x => to - x.2.1, ⟨([], to - body.length, c + 1), [(73, none)], ⟨Nat.zero_le _, by dsimp only; omega, hc1, ks, by dsimp only; rw [b1]; exact hk, rfl⟩, ?_⟩, fun x ⟨hxl, hxa, hxc, hx⟩ => ?_⟩
     ·(focus ((repeat' first|exact trivial|exact rfl|exact .inl rfl|exact .inr ⟨rfl,rfl⟩|refine And.intro ?_ ?_);done))
     obtain ⟨l1, a1, c1⟩ := x
     dsimp only at hxl hxa hxc hx
     obtain ⟨l2, hk2, hl⟩ := hx
     conv => whnf
     refine ⟨rfl, cmp_split (fun h => ?_) (fun h => ?_)⟩
     ·try dsimp only at h
      have hne : ((bl s).take to).drop a1 ≠ [] := fun e => by
       have := congrArg List.length e
       rw [hlen] at this
       simp at this
       omega
      rw [kidsA_step (rd_le m) hne] at hk2
      obtain ⟨r0, css0, ho0, hf0⟩ := ih to a1 c1 hto hxa hxc
      rw [← hdeep] at hf0
      cases hd : rdN m c1 (((bl s).take to).drop a1) with
      | error e1 => rw [hd] at hk2; cases hk2
      | ok q =>
       obtain ⟨y, r', c2⟩ := q
       rw [hd] at hk2 ho0
       dsimp only at hk2
       obtain ⟨rfl, rfl⟩ := ho0
       obtain ⟨n1, n2, n3, n4⟩ := hnext hxa hd
       cases hk3 : kidsA (rdN m) c2 r' with
       | error e1 => rw [hk3] at hk2; cases hk2
       | ok q =>
        obtain ⟨l3, c3⟩ := q
        rw [hk3] at hk2
        cases hk2
        conv => whnf
        refine ⟨rfl, st_succ (by omega) ?_⟩
        conv => whnf
        (refine st_callM [76] (hf0) rfl ?_ ?_ rfl ?_; (focus ((repeat' first|exact trivial|exact rfl|exact .inl rfl|exact .inr ⟨rfl,rfl⟩|refine And.intro ?_ ?_);done)); (focus ((repeat' first|exact trivial|exact rfl|exact .inl rfl|exact .inr ⟨rfl,rfl⟩|refine And.intro ?_ ?_);done)); conv => whnf)
        refine st_app (by rw [List.length_map]; simp; omega) (by intro c hc; simp at hc; rw [hc]; rfl) (zs := (l1 ++ [y]).map cN) (by rw [List.map_append]; show _ ++ [cM y] = _ ++ [cN y]; rw [cM_eq]) ?_
        conv => whnf
        refine ⟨(l1 ++ [y], to - r'.length, c2), [(73, some 73)], ⟨by simp; omega, n3, n4, l3, by dsimp only; rw [n1]; exact hk3, by simp [hl]⟩, by dsimp only; omega, ?_⟩
        (focus ((repeat' first|exact trivial|exact rfl|exact .inl rfl|exact .inr ⟨rfl,rfl⟩|refine And.intro ?_ ?_);done))
     ·try dsimp only at h
      have hat : a1 = to := by omega
      subst hat
      rw [List.drop_eq_nil_of_le (by rw [List.length_take]; omega), kidsA_nil] at hk2
      cases hk2
      rw [List.append_nil] at hl
      subst hl
      conv => whnf
      (focus ((repeat' first|exact trivial|exact rfl|exact .inl rfl|exact .inr ⟨rfl,rfl⟩|refine And.intro ?_ ?_);done))
    | error er =>
     obtain ⟨g1, g2, ⟨j, g3⟩, g4⟩ := failA_spec (rd_le m) (rd_suf m) (rd_cnt m) body.length (c + 1) body er (Nat.le_refl _) hc1 hk
     generalize hF : failA (rdN m) (c + 1) body = F at *
     obtain ⟨cf, lf⟩ := F
     dsimp only at g1 g2 g3 g4
     have hlf : ((bl s).take to).drop (to - lf.length) = lf := by
      rw [← b1, List.drop_drop] at g3
      have h3 := drop_suf g3.symm
      rwa [show ((bl s).take to).length = to by rw [List.length_take, size_bl]; omega] at h3
     obtain ⟨rf, cssf, hof, hff⟩ := ih to (to - lf.length) cf hto (by omega) g2
     rw [hlf, g1] at hof
     rw [← hdeep] at hff
     obtain ⟨nf, af, cf', rfl, rfl⟩ := hof
     refine ⟨.tup [.v (.agg (cM n0)), .v (tErr nf (teV p er))], [rC s af cf'], ⟨_, _, _, rfl, rfl⟩, ?_⟩
     refine fnM_prog tabOk mixed Tryz.f113 Tryz.func113 (by kernel_rfl) (by kernel_rfl) rfl rfl rfl rfl ?_
     conv => whnf
     (refine st_callM [76] (hf) rfl ?_ ?_ rfl ?_; (focus ((repeat' first|exact trivial|exact rfl|exact .inl rfl|exact .inr ⟨rfl,rfl⟩|refine And.intro ?_ ?_);done)); (focus ((repeat' first|exact trivial|exact rfl|exact .inl rfl|exact .inr ⟨rfl,rfl⟩|refine And.intro ?_ ?_);done)); conv => whnf)
     (refine st_call hin ?_ rfl rfl ?_; (focus ((repeat' first|exact trivial|exact rfl|exact .inl rfl|exact .inr ⟨rfl,rfl⟩|refine And.intro ?_ ?_);done)); conv => whnf)
     refine ⟨List Nd × Nat × Nat, fun x => ⟨76, [(0, .ptr 76 0), (2, .v (.int .i64 ((13 - (m + 1) : Nat) : Int))), (6, .ptr 6 0), (9, .v (.int .i64 (to : Nat))), (11, .ptr 11 0)], [(76, rC s x.2.1 x.2.2), (6, [.v (.int .i64 0), .v (.str (bt' [])), .v .nils]), (11, [.v (.int .i64 (t : Nat)), .v (.str (bt' [])), .own 73 46 (x.1.map cN)])], [(73, some 46)]⟩, fun x => x.1.length ≤ x.2.1 ∧ x.2.1 ≤ to ∧ x.2.2 ≤ 200 ∧ kidsA (rdN m) x.2.2 (((bl s).take to).drop x.2.1) = .error er ∧ failA (rdN m) x.2.2 (((bl s).take to).drop x.2.1) = (cf, lf), fun x => to - x.2.1, ⟨([], to - body.length, c + 1), [(73, none)], ⟨Nat.zero_le _, by dsimp only; omega, hc1, by dsimp only; rw [b1]; exact hk, by dsimp only; rw [b1]; exact hF⟩, ?_⟩, fun x ⟨hxl, hxa, hxc, hk2, hfl⟩ => ?_⟩
     ·(focus ((repeat' first|exact trivial|exact rfl|exact .inl rfl|exact .inr ⟨rfl,rfl⟩|refine And.intro ?_ ?_);done))
     obtain ⟨l1, a1, c1⟩ := x
     dsimp only at hxl hxa hxc hk2 hfl
     conv => whnf
     refine ⟨rfl, cmp_split (fun h => ?_) (fun h => ?_)⟩
     ·try dsimp only at h
      have hne : ((bl s).take to).drop a1 ≠ [] := fun e => by
       have := congrArg List.length e
       rw [hlen] at this
       simp at this
       omega
      have hk2' := hk2
      rw [kidsA_step (rd_le m) hne] at hk2'
      cases hd : rdN m c1 (((bl s).take to).drop a1) with
      | error e1 =>
       rw [failA_here hne hd] at hfl
       obtain ⟨e1, e2⟩ := Prod.mk.inj hfl
       have hal : to - lf.length = a1 := by rw [← e2, hlen]; omega
       rw [hal, ← e1] at hff
       conv => whnf
       refine ⟨rfl, st_succ (by omega) ?_⟩
       conv => whnf
       (refine st_callM [76] (hff) rfl ?_ ?_ rfl ?_; (focus ((repeat' first|exact trivial|exact rfl|exact .inl rfl|exact .inr ⟨rfl,rfl⟩|refine And.intro ?_ ?_);done)); (focus ((repeat' first|exact trivial|exact rfl|exact .inl rfl|exact .inr ⟨rfl,rfl⟩|refine And.intro ?_ ?_);done)); conv => whnf)
       (focus ((repeat' first|exact trivial|exact rfl|exact .inl rfl|exact .inr ⟨rfl,rfl⟩|refine And.intro ?_ ?_);done))
      | ok q =>
       obtain ⟨y, r', c2⟩ := q
       obtain ⟨r0, css0, ho0, hf0⟩ := ih to a1 c1 hto hxa hxc
       rw [← hdeep] at hf0
       rw [hd] at hk2' ho0
       dsimp only at hk2'
       obtain ⟨rfl, rfl⟩ := ho0
       obtain ⟨n1, n2, n3, n4⟩ := hnext hxa hd
       cases hk3 : kidsA (rdN m) c2 r' with
       | ok q => rw [hk3] at hk2'; cases hk2'
       | error e1 =>
        rw [hk3] at hk2'
        cases hk2'
        rw [failA_step (rd_le m) hd hk3] at hfl
        conv => whnf
        refine ⟨rfl, st_succ (by omega) ?_⟩
        conv => whnf
        (refine st_callM [76] (hf0) rfl ?_ ?_ rfl ?_; (focus ((repeat' first|exact trivial|exact rfl|exact .inl rfl|exact .inr ⟨rfl,rfl⟩|refine And.intro ?_ ?_);done)); (focus ((repeat' first|exact trivial|exact rfl|exact .inl rfl|exact .inr ⟨rfl,rfl⟩|refine And.intro ?_ ?_);done)); conv => whnf)
        refine st_app (by rw [List.length_map]; simp; omega) (by intro c hc; simp at hc; rw [hc]; rfl) (zs := (l1 ++ [y]).map cN) (by rw [List.map_append]; show _ ++ [cM y] = _ ++ [cN y]; rw [cM_eq]) ?_
        conv => whnf
        refine ⟨(l1 ++ [y], to - r'.length, c2), [(73, some 73)], ⟨by simp; omega, n3, n4, by dsimp only; rw [n1]; exact hk3, by dsimp only; rw [n1]; exact hfl⟩, by dsimp only; omega, ?_⟩
        (focus ((repeat' first|exact trivial|exact rfl|exact .inl rfl|exact .inr ⟨rfl,rfl⟩|refine And.intro ?_ ?_);done))
     ·try dsimp only at h
      have hat : a1 = to := by omega
      subst hat
      rw [List.drop_eq_nil_of_le (by rw [List.length_take]; omega), kidsA_nil] at hk2
      cases hk2
end Go.Proofs.YtiafggoaedifdaaGreatDoor.Tl
/- tlv, walked: trees of texts. Conditions: texts of at most 10^8 bytes. -/
namespace Go.Proofs.YtiafggoaedifdaaGreatDoor.Tl
open Go.RowKit Go.Shelf Go.Lib
open Fl (bl bt' bl_bt bl_of size_bl)
set_option linter.unusedVariables false
variable (p : Nat → Addr)
def DecOk (o : Except TE (Nd × List UInt8)) (s : ByteArray) (r : T) : Prop := match o with
 | .ok (n, rest) => r = .tup [.v (.agg (cM n)), .v (.int .i64 ((s.size - rest.length : Nat) : Int)), .v .nili]
 | .error er => ∃ i : Int, r = .tup [.v (.agg (cM n0)), .v (.int .i64 0), .v (tErr i (teV p er))]
set_option maxHeartbeats 4000000 in
theorem decoded_fn (s : ByteArray) (hs : s.size ≤ 100000000) (a : Nat) (ha : a ≤ s.size) : ∃ r, DecOk p (decodedN ((bl s).drop a)) s r ∧ Fn Tryz.prog (envX p) 82 [.v (.str s), .v (.int .i64 (a : Nat))] r := by
 obtain ⟨r, css', ho, ht⟩ := tree_fn p s hs 12 (Nat.le_refl _) s.size a 0 (Nat.le_refl _) ha (by decide)
 rw [List.take_of_length_le (by rw [size_bl]; exact Nat.le_refl _)] at ho
 cases hd : rdN 12 0 ((bl s).drop a) with
 | error er =>
  rw [hd] at ho
  obtain ⟨n, a', c', rfl, rfl⟩ := ho
  refine ⟨.tup [.v (.agg (cM n0)), .v (.int .i64 0), .v (tErr n (teV p er))], ?_, ?_⟩
  ·unfold decodedN
   rw [hd]
   exact ⟨_, rfl⟩
  refine fn_prog tabOk mixed Tryz.f82 Tryz.func82 (by kernel_rfl) (by kernel_rfl) ?_
  conv => whnf
  refine ⟨rfl, cmp_false (by omega) ?_⟩
  conv => whnf
  refine ⟨rfl, cmp_false (by omega) ?_⟩
  conv => whnf
  (refine st_callM [27] (ht) rfl ?_ ?_ rfl ?_; (focus ((repeat' first|exact trivial|exact rfl|exact .inl rfl|exact .inr ⟨rfl,rfl⟩|refine And.intro ?_ ?_);done)); (focus ((repeat' first|exact trivial|exact rfl|exact .inl rfl|exact .inr ⟨rfl,rfl⟩|refine And.intro ?_ ?_);done)); conv => whnf)
  (focus ((repeat' first|exact trivial|exact rfl|exact .inl rfl|exact .inr ⟨rfl,rfl⟩|refine And.intro ?_ ?_);done))
 | ok q =>
  obtain ⟨n, rest, c⟩ := q
  rw [hd] at ho
  obtain ⟨rfl, rfl⟩ := ho
  have hr := right_fn p n (Nat.le_trans (decoded_cnt hd) (by decide))
  cases hR : rightN n
  ·rw [hR] at hr
   refine ⟨.tup [.v (.agg (cM n0)), .v (.int .i64 0), .v (tErr (a : Nat) (nodeV p))], ?_, ?_⟩
   ·unfold decodedN
    rw [hd]
    dsimp only
    rw [if_neg (by rw [hR]; decide)]
    exact ⟨_, rfl⟩
   refine fn_prog tabOk mixed Tryz.f82 Tryz.func82 (by kernel_rfl) (by kernel_rfl) ?_
   conv => whnf
   refine ⟨rfl, cmp_false (by omega) ?_⟩
   conv => whnf
   refine ⟨rfl, cmp_false (by omega) ?_⟩
   conv => whnf
   (refine st_callM [27] (ht) rfl ?_ ?_ rfl ?_; (focus ((repeat' first|exact trivial|exact rfl|exact .inl rfl|exact .inr ⟨rfl,rfl⟩|refine And.intro ?_ ?_);done)); (focus ((repeat' first|exact trivial|exact rfl|exact .inl rfl|exact .inr ⟨rfl,rfl⟩|refine And.intro ?_ ?_);done)); conv => whnf)
   (refine st_call hr ?_ rfl rfl ?_; (focus ((repeat' first|exact trivial|exact rfl|exact .inl rfl|exact .inr ⟨rfl,rfl⟩|refine And.intro ?_ ?_);done)); conv => whnf)
   refine ⟨some [0, 1, 1002, 3, 4, 5, 6, 7], by kernel_rfl, ?_⟩; conv => whnf
   refine ⟨⟨nodeV p, ⟨by decide, rfl⟩⟩, ?_⟩
   conv => whnf
   refine ⟨nodeV p, ⟨by decide, rfl⟩, ?_⟩
   conv => whnf
   (focus ((repeat' first|exact trivial|exact rfl|exact .inl rfl|exact .inr ⟨rfl,rfl⟩|refine And.intro ?_ ?_);done))
  ·rw [hR] at hr
   refine ⟨.tup [.v (.agg (cM n)), .v (.int .i64 ((s.size - rest.length : Nat) : Int)), .v .nili], ?_, ?_⟩
   ·unfold decodedN
    rw [hd]
    dsimp only
    rw [if_pos hR]
    rfl
   refine fn_prog tabOk mixed Tryz.f82 Tryz.func82 (by kernel_rfl) (by kernel_rfl) ?_
   conv => whnf
   refine ⟨rfl, cmp_false (by omega) ?_⟩
   conv => whnf
   refine ⟨rfl, cmp_false (by omega) ?_⟩
   conv => whnf
   (refine st_callM [27] (ht) rfl ?_ ?_ rfl ?_; (focus ((repeat' first|exact trivial|exact rfl|exact .inl rfl|exact .inr ⟨rfl,rfl⟩|refine And.intro ?_ ?_);done)); (focus ((repeat' first|exact trivial|exact rfl|exact .inl rfl|exact .inr ⟨rfl,rfl⟩|refine And.intro ?_ ?_);done)); conv => whnf)
   (refine st_call hr ?_ rfl rfl ?_; (focus ((repeat' first|exact trivial|exact rfl|exact .inl rfl|exact .inr ⟨rfl,rfl⟩|refine And.intro ?_ ?_);done)); conv => whnf)
   refine ⟨some [0, 1, 2, 3, 4, 1005, 6, 7, 8], by kernel_rfl, ?_⟩; conv => whnf
   (focus ((repeat' first|exact trivial|exact rfl|exact .inl rfl|exact .inr ⟨rfl,rfl⟩|refine And.intro ?_ ?_);done))
def wholeT (s : ByteArray) : T := match decodedN (bl s) with
 | .ok (n, []) => .tup [.v (.agg (cM n)), .v (.int .i64 0)]
 | .ok (_, _ :: _) => .tup [.v (.agg (cM n0)), .v (.int .i64 11)]
 | .error er => .tup [.v (.agg (cM n0)), .v (.int .i64 (teC er : Nat))]
set_option maxHeartbeats 4000000 in
theorem whole_fn (s : ByteArray) (hs : s.size ≤ 100000000) : Fn Tryz.prog (envX p) 56 [.v (.str s)] (wholeT s) := by
 obtain ⟨r, ho, hd⟩ := decoded_fn p s hs 0 (Nat.zero_le _)
 rw [List.drop_zero] at ho
 unfold wholeT
 cases hq : decodedN (bl s) with
 | error er =>
  rw [hq] at ho
  obtain ⟨i, rfl⟩ := ho
  dsimp only
  refine fn_prog tabOk mixed Tryz.f56 Tryz.func56 (by kernel_rfl) (by kernel_rfl) ?_
  conv => whnf
  (refine st_call hd ?_ rfl rfl ?_; (focus ((repeat' first|exact trivial|exact rfl|exact .inl rfl|exact .inr ⟨rfl,rfl⟩|refine And.intro ?_ ?_);done)); conv => whnf)
  refine ⟨none, by kernel_rfl, ?_⟩; conv => whnf
  (refine st_call (told_te p i er) ?_ rfl rfl ?_; (focus ((repeat' first|exact trivial|exact rfl|exact .inl rfl|exact .inr ⟨rfl,rfl⟩|refine And.intro ?_ ?_);done)); conv => whnf)
  (focus ((repeat' first|exact trivial|exact rfl|exact .inl rfl|exact .inr ⟨rfl,rfl⟩|refine And.intro ?_ ?_);done))
 | ok q =>
  obtain ⟨n, rest⟩ := q
  rw [hq] at ho
  have ho' : r = _ := ho
  subst ho'
  have hle := (decoded_le hq).2
  rw [size_bl] at hle
  cases rest with
  | nil =>
   dsimp only
   refine fn_prog tabOk mixed Tryz.f56 Tryz.func56 (by kernel_rfl) (by kernel_rfl) ?_
   conv => whnf
   (refine st_call hd ?_ rfl rfl ?_; (focus ((repeat' first|exact trivial|exact rfl|exact .inl rfl|exact .inr ⟨rfl,rfl⟩|refine And.intro ?_ ?_);done)); conv => whnf)
   refine ⟨rfl, cmp_false (by simp) ?_⟩
   conv => whnf
   refine ⟨none, by kernel_rfl, ?_⟩; conv => whnf
   (refine st_call (told_nil_fn p) ?_ rfl rfl ?_; (focus ((repeat' first|exact trivial|exact rfl|exact .inl rfl|exact .inr ⟨rfl,rfl⟩|refine And.intro ?_ ?_);done)); conv => whnf)
   (focus ((repeat' first|exact trivial|exact rfl|exact .inl rfl|exact .inr ⟨rfl,rfl⟩|refine And.intro ?_ ?_);done))
  | cons b t =>
   dsimp only
   rw [List.length_cons] at hle
   refine fn_prog tabOk mixed Tryz.f56 Tryz.func56 (by kernel_rfl) (by kernel_rfl) ?_
   conv => whnf
   (refine st_call hd ?_ rfl rfl ?_; (focus ((repeat' first|exact trivial|exact rfl|exact .inl rfl|exact .inr ⟨rfl,rfl⟩|refine And.intro ?_ ?_);done)); conv => whnf)
   refine ⟨rfl, cmp_true (by rw [List.length_cons]; omega) ?_⟩
   conv => whnf
   refine ⟨some [0, 1, 1002, 3, 4, 5, 6], by kernel_rfl, ?_⟩; conv => whnf
   refine ⟨⟨formV p, ⟨by decide, rfl⟩⟩, ?_⟩
   conv => whnf
   refine ⟨formV p, ⟨by decide, rfl⟩, ?_⟩
   conv => whnf
   refine ⟨none, by kernel_rfl, ?_⟩; conv => whnf
   (refine st_call (told_form p ((s.size - (b :: t).length : Nat) : Int)) ?_ rfl rfl ?_; (focus ((repeat' first|exact trivial|exact rfl|exact .inl rfl|exact .inr ⟨rfl,rfl⟩|refine And.intro ?_ ?_);done)); conv => whnf)
   (focus ((repeat' first|exact trivial|exact rfl|exact .inl rfl|exact .inr ⟨rfl,rfl⟩|refine And.intro ?_ ?_);done))
end Go.Proofs.YtiafggoaedifdaaGreatDoor.Tl
/- fber, walked: filters of trees, of texts. Conditions: trees that are not too large. -/
namespace Go.Proofs.YtiafggoaedifdaaGreatDoor.Fb
open Go.RowKit Go.Shelf Go.Lib Fl Tl
open Fi (one_arg cG cF cFs cG_eq midF midFs encS f0)
set_option linter.unusedVariables false
variable {X : En}
set_option maxHeartbeats 8000000 in
theorem sets_fn (n : Nd) (m : Nat) (hm : m ≤ 100) (k : Int) (hko : kindOf n.tag = some k) (hk : k = 0 ∨ k = 1 ∨ k = 2) (hl : n.kids.length ≤ 100000000) (ih : ∀ x ∈ n.kids, ∃ r, RdOk (readF m x) r ∧ Fn Tryz.prog X 80 [.v (.agg (cM x)), .v (.int .i64 (m : Nat))] r) : ∃ r, RdOk ((allL (readF m) n.kids).map fun l => .mk k (bt' []) (bt' []) [] (bt' []) l) r ∧ Fn Tryz.prog X 80 [.v (.agg (cM n)), .v (.int .i64 ((m + 1 : Nat) : Int))] r := by
 have hkg := kind_get n.tag
 rw [hko] at hkg
 cases ha : allL (readF m) n.kids with
 | some fs =>
  have hlen := allL_len ha
  refine ⟨_, rfl, ?_⟩
  refine fn_prog (tab_elm tabOk) mixed Tryz.f80 Tryz.func80 (by kernel_rfl) (by kernel_rfl) ?_
  conv => whnf
  refine ⟨some [1, 2, 0, 3, 4, 5, 6, 7, 8], by kernel_rfl, ?_⟩; conv => whnf
  (refine st_call (kinds_fn (X := X)) ?_ rfl rfl ?_; (focus ((repeat' first|exact trivial|exact rfl|exact .inl rfl|exact .inr ⟨rfl,rfl⟩|refine And.intro ?_ ?_);done)); conv => whnf)
  refine ⟨_, hkg, ?_⟩
  conv => whnf
  refine ⟨rfl, cmp_false (by omega) ?_⟩
  conv => whnf
  refine ⟨rfl, cmp_false (by omega) ?_⟩
  conv => whnf
  refine ⟨rfl, cmp_split (fun k0 => ?_) (fun k0 => ?_)⟩
  rotate_left
  conv => whnf
  refine ⟨rfl, cmp_split (fun k1 => ?_) (fun k1 => ?_)⟩
  rotate_left
  conv => whnf
  refine ⟨rfl, cmp_true (by omega) ?_⟩
  all_goals conv => whnf
  all_goals
   refine ⟨Nat, fun i => ⟨111, [(1, .v (.int .i64 ((m + 1 : Nat) : Int))), (4, .ptr 4 0), (8, .ptr 8 0), (51, .v (.sl (n.kids.map cN))), (52, .v (.int .i64 ((n.kids.map cN).length : Nat))), (53, .v (.int .i64 (i : Nat)))], [(4, z6), (8, [.v (.int .i64 k), .v (.str (bt' [])), .v (.str (bt' [])), .v .nils, .v (.str (bt' [])), .own 73 25 ((fs.take i).map cG)])], [(73, some 25)]⟩, fun i => i ≤ n.kids.length, fun i => n.kids.length - i, ⟨0, [(73, none)], Nat.zero_le _, ?_⟩, fun i hi => ?_⟩
   ·(focus ((repeat' first|exact trivial|exact rfl|exact .inl rfl|exact .inr ⟨rfl,rfl⟩|refine And.intro ?_ ?_);done))
   conv => whnf
   refine ⟨rfl, cmp_split (fun h => ?_) (fun h => ?_)⟩
   ·try dsimp only at h
    rw [List.length_map] at h
    have hil : i < n.kids.length := by omega
    have hfl : i < fs.length := by omega
    obtain ⟨r0, ho0, hf0⟩ := ih n.kids[i] (List.getElem_mem hil)
    rw [allL_get ha i hil hfl] at ho0
    have ho1 : r0 = _ := ho0
    subst ho1
    have hsz : ((fs.take i).map cG).length + 1 ≤ 1000000000 := by rw [List.length_map, List.length_take]; omega
    conv => whnf
    refine st_idxN hil ?_
    conv => whnf
    refine st_minus (m + 1) 1 (by omega) (by omega) ?_
    conv => whnf
    (refine st_call hf0 ?_ rfl rfl ?_; (focus ((repeat' first|exact trivial|exact rfl|exact .inl rfl|exact .inr ⟨rfl,rfl⟩|refine And.intro ?_ ?_);done)); conv => whnf)
    (refine ⟨some [9999], by kernel_rfl, ⟨(.one 0 (.one 1 (.one 2 (.one 3 (.one 4 (.one 5 (.one 6 (.one 8 (.or (.one 7 (.one 9 .nil)) (.one 9 (.one 7 .nil))))))))))), by kernel_rfl, ?_, ?_, ?_⟩⟩; rotate_left; (focus ((conv => whnf); (repeat' (first | ((refine ⟨rfl, hsz, (by intro c hc; simp at hc; rw [hc]; rfl), ?_⟩) <;> (conv => whnf)) | ((refine ⟨rfl, rfl, ?_⟩) <;> (conv => whnf)) | ((refine ⟨hsz, ?_⟩) <;> (conv => whnf)) | ((refine And.intro ?_ ?_) <;> (conv => whnf)) | (exact St.le_refl _) | (refine ⟨rfl, ?_, ?_, ?_⟩ <;> (repeat' (first | exact trivial | (refine ⟨rfl, ?_⟩))); done) | fail))))); conv => whnf
    refine ⟨rfl, st_succ (by omega) ?_⟩
    conv => whnf
    refine ⟨i + 1, [(73, some 73)], by omega, by dsimp only; omega, ?_⟩
    dsimp only
    rw [List.take_succ_eq_append_getElem hfl, List.map_append]
    (focus ((repeat' first|exact trivial|exact rfl|exact .inl rfl|exact .inr ⟨rfl,rfl⟩|refine And.intro ?_ ?_);done))
   ·try dsimp only at h
    rw [List.length_map] at h
    have he : (fs.take i).map cG = fs.map cF := by
     rw [List.take_of_length_le (by omega)]
     exact List.map_congr_left fun x _ => (cG_eq x).symm
    conv => whnf
    rw [he]
    (focus ((repeat' first|exact trivial|exact rfl|exact .inl rfl|exact .inr ⟨rfl,rfl⟩|refine And.intro ?_ ?_);done))
 | none =>
  obtain ⟨j, hj, ys, hyl, hjn, hys⟩ := allL_none ha
  obtain ⟨rj, hoj, hfj⟩ := ih n.kids[j] (List.getElem_mem hj)
  rw [hjn] at hoj
  obtain ⟨ei, rfl⟩ := hoj
  refine ⟨.tup [.v (.agg (cG f0)), .v (bErr ei)], ⟨_, rfl⟩, ?_⟩
  refine fn_prog (tab_elm tabOk) mixed Tryz.f80 Tryz.func80 (by kernel_rfl) (by kernel_rfl) ?_
  conv => whnf
  refine ⟨some [1, 2, 0, 3, 4, 5, 6, 7, 8], by kernel_rfl, ?_⟩; conv => whnf
  (refine st_call (kinds_fn (X := X)) ?_ rfl rfl ?_; (focus ((repeat' first|exact trivial|exact rfl|exact .inl rfl|exact .inr ⟨rfl,rfl⟩|refine And.intro ?_ ?_);done)); conv => whnf)
  refine ⟨_, hkg, ?_⟩
  conv => whnf
  refine ⟨rfl, cmp_false (by omega) ?_⟩
  conv => whnf
  refine ⟨rfl, cmp_false (by omega) ?_⟩
  conv => whnf
  refine ⟨rfl, cmp_split (fun k0 => ?_) (fun k0 => ?_)⟩
  rotate_left
  conv => whnf
  refine ⟨rfl, cmp_split (fun k1 => ?_) (fun k1 => ?_)⟩
  rotate_left
  conv => whnf
  refine ⟨rfl, cmp_true (by omega) ?_⟩
  all_goals conv => whnf
  all_goals
   refine ⟨Nat, fun i => ⟨111, [(1, .v (.int .i64 ((m + 1 : Nat) : Int))), (4, .ptr 4 0), (8, .ptr 8 0), (51, .v (.sl (n.kids.map cN))), (52, .v (.int .i64 ((n.kids.map cN).length : Nat))), (53, .v (.int .i64 (i : Nat)))], [(4, z6), (8, [.v (.int .i64 k), .v (.str (bt' [])), .v (.str (bt' [])), .v .nils, .v (.str (bt' [])), .own 73 25 ((ys.take i).map cG)])], [(73, some 25)]⟩, fun i => i ≤ j, fun i => n.kids.length - i, ⟨0, [(73, none)], Nat.zero_le _, ?_⟩, fun i hi => ?_⟩
   ·(focus ((repeat' first|exact trivial|exact rfl|exact .inl rfl|exact .inr ⟨rfl,rfl⟩|refine And.intro ?_ ?_);done))
   conv => whnf
   refine ⟨rfl, cmp_split (fun h => ?_) (fun h => ?_)⟩
   ·try dsimp only at h
    rw [List.length_map] at h
    have hil : i < n.kids.length := by omega
    by_cases hij : i = j
    ·subst hij
     conv => whnf
     refine st_idxN hil ?_
     conv => whnf
     refine st_minus (m + 1) 1 (by omega) (by omega) ?_
     conv => whnf
     (refine st_call hfj ?_ rfl rfl ?_; (focus ((repeat' first|exact trivial|exact rfl|exact .inl rfl|exact .inr ⟨rfl,rfl⟩|refine And.intro ?_ ?_);done)); conv => whnf)
     (focus ((repeat' first|exact trivial|exact rfl|exact .inl rfl|exact .inr ⟨rfl,rfl⟩|refine And.intro ?_ ?_);done))
    have hfl : i < ys.length := by omega
    obtain ⟨r0, ho0, hf0⟩ := ih n.kids[i] (List.getElem_mem hil)
    rw [hys i hil hfl] at ho0
    have ho1 : r0 = _ := ho0
    subst ho1
    have hsz : ((ys.take i).map cG).length + 1 ≤ 1000000000 := by rw [List.length_map, List.length_take]; omega
    conv => whnf
    refine st_idxN hil ?_
    conv => whnf
    refine st_minus (m + 1) 1 (by omega) (by omega) ?_
    conv => whnf
    (refine st_call hf0 ?_ rfl rfl ?_; (focus ((repeat' first|exact trivial|exact rfl|exact .inl rfl|exact .inr ⟨rfl,rfl⟩|refine And.intro ?_ ?_);done)); conv => whnf)
    (refine ⟨some [9999], by kernel_rfl, ⟨(.one 0 (.one 1 (.one 2 (.one 3 (.one 4 (.one 5 (.one 6 (.one 8 (.or (.one 7 (.one 9 .nil)) (.one 9 (.one 7 .nil))))))))))), by kernel_rfl, ?_, ?_, ?_⟩⟩; rotate_left; (focus ((conv => whnf); (repeat' (first | ((refine ⟨rfl, hsz, (by intro c hc; simp at hc; rw [hc]; rfl), ?_⟩) <;> (conv => whnf)) | ((refine ⟨rfl, rfl, ?_⟩) <;> (conv => whnf)) | ((refine ⟨hsz, ?_⟩) <;> (conv => whnf)) | ((refine And.intro ?_ ?_) <;> (conv => whnf)) | (exact St.le_refl _) | (refine ⟨rfl, ?_, ?_, ?_⟩ <;> (repeat' (first | exact trivial | (refine ⟨rfl, ?_⟩))); done) | fail))))); conv => whnf
    refine ⟨rfl, st_succ (by omega) ?_⟩
    conv => whnf
    refine ⟨i + 1, [(73, some 73)], by omega, by dsimp only; omega, ?_⟩
    dsimp only
    rw [List.take_succ_eq_append_getElem hfl, List.map_append]
    (focus ((repeat' first|exact trivial|exact rfl|exact .inl rfl|exact .inr ⟨rfl,rfl⟩|refine And.intro ?_ ?_);done))
   ·try dsimp only at h
    rw [List.length_map] at h
    exact absurd h (by omega)
end Go.Proofs.YtiafggoaedifdaaGreatDoor.Fb
/- fber, walked: Read, Encode, Decode. Conditions: trees that are not too large; texts of at most 10^8 bytes. -/
namespace Go.Proofs.YtiafggoaedifdaaGreatDoor.Fb
open Go.RowKit Go.Shelf Go.Lib Fl Tl
open Fi (one_arg cG cF cFs cG_eq midF midFs encS f0)
set_option linter.unusedVariables false
variable {X : En}
set_option maxHeartbeats 8000000 in
theorem read_bad (n : Nd) (m : Nat) (hm : m ≤ 100) (h : kindOf n.tag = none ∨ m = 0) : Fn Tryz.prog X 80 [.v (.agg (cM n)), .v (.int .i64 (m : Nat))] (.tup [.v (.agg (cG f0)), .v (bErr n.tag)]) := by
 have hkg := kind_get n.tag
 cases hko : kindOf n.tag with
 | none =>
  rw [hko] at hkg
  refine fn_prog (tab_elm tabOk) mixed Tryz.f80 Tryz.func80 (by kernel_rfl) (by kernel_rfl) ?_
  conv => whnf
  refine ⟨some [1, 2, 0, 3, 4, 5, 6, 7, 8], by kernel_rfl, ?_⟩; conv => whnf
  (refine st_call (kinds_fn (X := X)) ?_ rfl rfl ?_; (focus ((repeat' first|exact trivial|exact rfl|exact .inl rfl|exact .inr ⟨rfl,rfl⟩|refine And.intro ?_ ?_);done)); conv => whnf)
  refine ⟨_, hkg, ?_⟩
  conv => whnf
  refine ⟨some [0, 1, 1002, 3, 4, 5, 6], by kernel_rfl, ?_⟩; conv => whnf
  (focus ((repeat' first|exact trivial|exact rfl|exact .inl rfl|exact .inr ⟨rfl,rfl⟩|refine And.intro ?_ ?_);done))
 | some k =>
  rw [hko] at hkg
  obtain rfl : m = 0 := by
   rcases h with h | h
   ·rw [hko] at h; cases h
   ·exact h
  refine fn_prog (tab_elm tabOk) mixed Tryz.f80 Tryz.func80 (by kernel_rfl) (by kernel_rfl) ?_
  conv => whnf
  refine ⟨some [1, 2, 0, 3, 4, 5, 6, 7, 8], by kernel_rfl, ?_⟩; conv => whnf
  (refine st_call (kinds_fn (X := X)) ?_ rfl rfl ?_; (focus ((repeat' first|exact trivial|exact rfl|exact .inl rfl|exact .inr ⟨rfl,rfl⟩|refine And.intro ?_ ?_);done)); conv => whnf)
  refine ⟨_, hkg, ?_⟩
  conv => whnf
  refine ⟨rfl, cmp_true (by decide) ?_⟩
  conv => whnf
  refine ⟨some [0, 1, 1002, 3, 4, 5, 6], by kernel_rfl, ?_⟩; conv => whnf
  (focus ((repeat' first|exact trivial|exact rfl|exact .inl rfl|exact .inr ⟨rfl,rfl⟩|refine And.intro ?_ ?_);done))
set_option maxHeartbeats 8000000 in
theorem read_pres (n : Nd) (m : Nat) (hm : m ≤ 100) (hko : kindOf n.tag = some 7) : Fn Tryz.prog X 80 [.v (.agg (cM n)), .v (.int .i64 ((m + 1 : Nat) : Int))] (.tup [.v (.agg (cG (.mk 7 n.data (bt' []) [] (bt' []) []))), .v .nili]) := by
 have hkg := kind_get n.tag
 rw [hko] at hkg
 refine fn_prog (tab_elm tabOk) mixed Tryz.f80 Tryz.func80 (by kernel_rfl) (by kernel_rfl) ?_
 conv => whnf
 refine ⟨some [1, 2, 0, 3, 4, 5, 6, 7, 8], by kernel_rfl, ?_⟩; conv => whnf
 (refine st_call (kinds_fn (X := X)) ?_ rfl rfl ?_; (focus ((repeat' first|exact trivial|exact rfl|exact .inl rfl|exact .inr ⟨rfl,rfl⟩|refine And.intro ?_ ?_);done)); conv => whnf)
 refine ⟨_, hkg, ?_⟩
 conv => whnf
 refine ⟨rfl, cmp_false (by omega) ?_⟩
 conv => whnf
 refine ⟨rfl, cmp_true rfl ?_⟩
 conv => whnf
 (focus ((repeat' first|exact trivial|exact rfl|exact .inl rfl|exact .inr ⟨rfl,rfl⟩|refine And.intro ?_ ?_);done))
set_option maxHeartbeats 8000000 in
theorem read_two_bad (n : Nd) (m : Nat) (hm : m ≤ 100) (k : Int) (hko : kindOf n.tag = some k) (hk : 3 ≤ k) (h7 : k ≠ 7) (h2 : Fn Tryz.prog X 107 [.v (.agg (cM n))] (.tup [.v (.str (bt' [])), .v (.agg (cM nd0)), .v (bErr n.tag)])) : Fn Tryz.prog X 80 [.v (.agg (cM n)), .v (.int .i64 ((m + 1 : Nat) : Int))] (.tup [.v (.agg (cG f0)), .v (bErr n.tag)]) := by
 have hkg := kind_get n.tag
 rw [hko] at hkg
 refine fn_prog (tab_elm tabOk) mixed Tryz.f80 Tryz.func80 (by kernel_rfl) (by kernel_rfl) ?_
 conv => whnf
 refine ⟨some [1, 2, 0, 3, 4, 5, 6, 7, 8], by kernel_rfl, ?_⟩; conv => whnf
 (refine st_call (kinds_fn (X := X)) ?_ rfl rfl ?_; (focus ((repeat' first|exact trivial|exact rfl|exact .inl rfl|exact .inr ⟨rfl,rfl⟩|refine And.intro ?_ ?_);done)); conv => whnf)
 refine ⟨_, hkg, ?_⟩
 conv => whnf
 refine ⟨rfl, cmp_false (by omega) ?_⟩
 conv => whnf
 refine ⟨rfl, cmp_false (by omega) ?_⟩
 conv => whnf
 refine ⟨rfl, cmp_false (by omega) ?_⟩
 conv => whnf
 refine ⟨rfl, cmp_false (by omega) ?_⟩
 conv => whnf
 refine ⟨rfl, cmp_false (by omega) ?_⟩
 conv => whnf
 (refine st_call h2 ?_ rfl rfl ?_; (focus ((repeat' first|exact trivial|exact rfl|exact .inl rfl|exact .inr ⟨rfl,rfl⟩|refine And.intro ?_ ?_);done)); conv => whnf)
 (focus ((repeat' first|exact trivial|exact rfl|exact .inl rfl|exact .inr ⟨rfl,rfl⟩|refine And.intro ?_ ?_);done))
set_option maxHeartbeats 8000000 in
theorem read_item (n x y : Nd) (m : Nat) (hm : m ≤ 100) (k : Int) (hko : kindOf n.tag = some k) (hk : 3 ≤ k) (h7 : k ≠ 7) (h4 : k ≠ 4) (h2 : Fn Tryz.prog X 107 [.v (.agg (cM n))] (.tup [.v (.str x.data), .v (.agg (cM y)), .v .nili])) : Fn Tryz.prog X 80 [.v (.agg (cM n)), .v (.int .i64 ((m + 1 : Nat) : Int))] (.tup [.v (.agg (cG (.mk k x.data y.data [] (bt' []) []))), .v .nili]) := by
 have hkg := kind_get n.tag
 rw [hko] at hkg
 refine fn_prog (tab_elm tabOk) mixed Tryz.f80 Tryz.func80 (by kernel_rfl) (by kernel_rfl) ?_
 conv => whnf
 refine ⟨some [1, 2, 0, 3, 4, 5, 6, 7, 8], by kernel_rfl, ?_⟩; conv => whnf
 (refine st_call (kinds_fn (X := X)) ?_ rfl rfl ?_; (focus ((repeat' first|exact trivial|exact rfl|exact .inl rfl|exact .inr ⟨rfl,rfl⟩|refine And.intro ?_ ?_);done)); conv => whnf)
 refine ⟨_, hkg, ?_⟩
 conv => whnf
 refine ⟨rfl, cmp_false (by omega) ?_⟩
 conv => whnf
 refine ⟨rfl, cmp_false (by omega) ?_⟩
 conv => whnf
 refine ⟨rfl, cmp_false (by omega) ?_⟩
 conv => whnf
 refine ⟨rfl, cmp_false (by omega) ?_⟩
 conv => whnf
 refine ⟨rfl, cmp_false (by omega) ?_⟩
 conv => whnf
 (refine st_call h2 ?_ rfl rfl ?_; (focus ((repeat' first|exact trivial|exact rfl|exact .inl rfl|exact .inr ⟨rfl,rfl⟩|refine And.intro ?_ ?_);done)); conv => whnf)
 refine ⟨rfl, cmp_true h4 ?_⟩
 conv => whnf
 (focus ((repeat' first|exact trivial|exact rfl|exact .inl rfl|exact .inr ⟨rfl,rfl⟩|refine And.intro ?_ ?_);done))
theorem read_fn {B : Nat} (hB : B ≤ 100000000) : ∀ (m : Nat), m ≤ 100 → ∀ n : Nd, kidLe B n → ∃ r, RdOk (readF m n) r ∧ Fn Tryz.prog X 80 [.v (.agg (cM n)), .v (.int .i64 (m : Nat))] r
 | 0, hm, n, hk => ⟨_, ⟨_, rfl⟩, read_bad n 0 hm (.inr rfl)⟩
 | m + 1, hm, n, hk => by
  obtain ⟨k1, k2, k3⟩ := kidLe_at hk
  cases hko : kindOf n.tag with
  | none =>
   refine ⟨_, ?_, read_bad n (m + 1) hm (.inl hko)⟩
   rw [readF, hko]
   exact ⟨_, rfl⟩
  | some k =>
   obtain ⟨r1, r2⟩ := kind_range hko
   rw [readF, hko]
   dsimp only
   by_cases h7 : k = 7
   ·subst h7
    rw [if_pos rfl]
    exact ⟨_, rfl, read_pres n m (by omega) hko⟩
   rw [if_neg h7]
   by_cases hs : k = 0 ∨ k = 1 ∨ k = 2
   ·rw [if_pos hs]
    exact sets_fn n m (by omega) k hko hs (by omega) (fun x hx => read_fn hB m (by omega) x (kidLes_mem k3 x hx))
   rw [if_neg hs]
   have h2 := two_fn (X := X) n
   unfold twoT at h2
   split
   ·rename_i x y hxy
    rw [hxy] at h2
    dsimp only at h2
    by_cases hx : x.tag = 4
    ·rw [if_pos hx] at h2
     rw [if_pos hx]
     by_cases h4 : k = 4
     ·subst h4
      rw [if_pos rfl]
      have hy := kidLe_at (kidLes_mem k3 y (by rw [hxy]; simp))
      exact subs_fn n x y m (by omega) hko hxy hx (by omega)
     ·rw [if_neg h4]
      exact ⟨_, rfl, read_item n x y m (by omega) k hko (by omega) h7 h4 h2⟩
    ·rw [if_neg hx] at h2
     rw [if_neg hx]
     exact ⟨_, ⟨_, rfl⟩, read_two_bad n m (by omega) k hko (by omega) h7 h2⟩
   ·rename_i hno
    split at h2
    ·rename_i x y hxy
     exact absurd hxy (hno x y)
    ·exact ⟨_, ⟨_, rfl⟩, read_two_bad n m (by omega) k hko (by omega) h7 h2⟩
variable (p : Nat → Addr)
set_option maxHeartbeats 8000000 in
theorem readWhole_fn (n : Nd) (h : Small n) : ∃ r, RdOk (wholeF n) r ∧ Fn Tryz.prog (envX p) 53 [.v (.agg (cM n))] r := by
 obtain ⟨r, ho, hf⟩ := read_fn (X := envX p) (B := 200) (by decide) 6 (by decide) n h.kid
 have hmn := small_mid h
 cases hr : readF 6 n with
 | none =>
  rw [hr] at ho
  obtain ⟨i, rfl⟩ := ho
  refine ⟨.tup [.v (.agg (cG f0)), .v (bErr i)], ?_, ?_⟩
  ·unfold wholeF
   rw [hr]
   exact ⟨_, rfl⟩
  refine fn_prog tabOk mixed Tryz.f53 Tryz.func53 (by kernel_rfl) (by kernel_rfl) ?_
  conv => whnf
  (refine st_call hf ?_ rfl rfl ?_; (focus ((repeat' first|exact trivial|exact rfl|exact .inl rfl|exact .inr ⟨rfl,rfl⟩|refine And.intro ?_ ?_);done)); conv => whnf)
  (focus ((repeat' first|exact trivial|exact rfl|exact .inl rfl|exact .inr ⟨rfl,rfl⟩|refine And.intro ?_ ?_);done))
 | some f =>
  rw [hr] at ho
  have ho' : r = _ := ho
  subst ho'
  have hmf := read_mid h hr
  have hc := h.cnt f hr
  have ht := tree_fn p f hmf hc
  unfold treeT at ht
  cases hR : rightF 1 f
  ·rw [hR, if_neg (by decide)] at ht
   refine ⟨.tup [.v (.agg (cG f0)), .v (bErr n.tag)], ?_, ?_⟩
   ·unfold wholeF
    rw [hr]
    dsimp only
    rw [if_neg (fun e => by rw [hR] at e; cases e.1)]
    exact ⟨_, rfl⟩
   refine fn_prog tabOk mixed Tryz.f53 Tryz.func53 (by kernel_rfl) (by kernel_rfl) ?_
   conv => whnf
   (refine st_call hf ?_ rfl rfl ?_; (focus ((repeat' first|exact trivial|exact rfl|exact .inl rfl|exact .inr ⟨rfl,rfl⟩|refine And.intro ?_ ?_);done)); conv => whnf)
   (refine st_call ht ?_ rfl rfl ?_; (focus ((repeat' first|exact trivial|exact rfl|exact .inl rfl|exact .inr ⟨rfl,rfl⟩|refine And.intro ?_ ?_);done)); conv => whnf)
   refine ⟨some [0, 1, 1002, 3, 4, 5, 6], by kernel_rfl, ?_⟩; conv => whnf
   (focus ((repeat' first|exact trivial|exact rfl|exact .inl rfl|exact .inr ⟨rfl,rfl⟩|refine And.intro ?_ ?_);done))
  ·rw [hR, if_pos rfl] at ht
   have hs := Tl.same_fn (X := envX p) (treeF f) n (small_mid (small_tree hR)) hmn
   cases hS : sameN (treeF f) n
   ·rw [hS] at hs
    refine ⟨.tup [.v (.agg (cG f0)), .v (bErr n.tag)], ?_, ?_⟩
    ·unfold wholeF
     rw [hr]
     dsimp only
     rw [if_neg (fun e => by rw [hS] at e; cases e.2)]
     exact ⟨_, rfl⟩
    refine fn_prog tabOk mixed Tryz.f53 Tryz.func53 (by kernel_rfl) (by kernel_rfl) ?_
    conv => whnf
    (refine st_call hf ?_ rfl rfl ?_; (focus ((repeat' first|exact trivial|exact rfl|exact .inl rfl|exact .inr ⟨rfl,rfl⟩|refine And.intro ?_ ?_);done)); conv => whnf)
    (refine st_call ht ?_ rfl rfl ?_; (focus ((repeat' first|exact trivial|exact rfl|exact .inl rfl|exact .inr ⟨rfl,rfl⟩|refine And.intro ?_ ?_);done)); conv => whnf)
    (refine st_call hs ?_ rfl rfl ?_; (focus ((repeat' first|exact trivial|exact rfl|exact .inl rfl|exact .inr ⟨rfl,rfl⟩|refine And.intro ?_ ?_);done)); conv => whnf)
    refine ⟨some [0, 1, 1002, 3, 4, 5, 6], by kernel_rfl, ?_⟩; conv => whnf
    (focus ((repeat' first|exact trivial|exact rfl|exact .inl rfl|exact .inr ⟨rfl,rfl⟩|refine And.intro ?_ ?_);done))
   ·rw [hS] at hs
    refine ⟨.tup [.v (.agg (cG f)), .v .nili], ?_, ?_⟩
    ·unfold wholeF
     rw [hr]
     dsimp only
     rw [if_pos ⟨hR, hS⟩]
     rfl
    refine fn_prog tabOk mixed Tryz.f53 Tryz.func53 (by kernel_rfl) (by kernel_rfl) ?_
    conv => whnf
    (refine st_call hf ?_ rfl rfl ?_; (focus ((repeat' first|exact trivial|exact rfl|exact .inl rfl|exact .inr ⟨rfl,rfl⟩|refine And.intro ?_ ?_);done)); conv => whnf)
    (refine st_call ht ?_ rfl rfl ?_; (focus ((repeat' first|exact trivial|exact rfl|exact .inl rfl|exact .inr ⟨rfl,rfl⟩|refine And.intro ?_ ?_);done)); conv => whnf)
    (refine st_call hs ?_ rfl rfl ?_; (focus ((repeat' first|exact trivial|exact rfl|exact .inl rfl|exact .inr ⟨rfl,rfl⟩|refine And.intro ?_ ?_);done)); conv => whnf)
    (focus ((repeat' first|exact trivial|exact rfl|exact .inl rfl|exact .inr ⟨rfl,rfl⟩|refine And.intro ?_ ?_);done))
def rdT (o : Option Flt) : T := match o with
 | some f => .tup [.v (.agg (cG f)), .v (.int .i64 0)]
 | none => .tup [.v (.agg (cG f0)), .v (.int .i64 80)]
theorem Read_fn (n : Nd) (h : Small n) : Fn Tryz.prog (envX p) 31 [.v (.agg (cM n))] (rdT (wholeF n)) := by
 obtain ⟨r, ho, hf⟩ := readWhole_fn p n h
 cases hw : wholeF n with
 | none =>
  rw [hw] at ho
  obtain ⟨i, rfl⟩ := ho
  unfold rdT
  refine fn_prog tabOk mixed Tryz.f31 Tryz.func31 (by kernel_rfl) (by kernel_rfl) ?_
  conv => whnf
  (refine st_call hf ?_ rfl rfl ?_; (focus ((repeat' first|exact trivial|exact rfl|exact .inl rfl|exact .inr ⟨rfl,rfl⟩|refine And.intro ?_ ?_);done)); conv => whnf)
  refine ⟨none, by kernel_rfl, ?_⟩; conv => whnf
  (refine st_call (told_wrong_fn p i) ?_ rfl rfl ?_; (focus ((repeat' first|exact trivial|exact rfl|exact .inl rfl|exact .inr ⟨rfl,rfl⟩|refine And.intro ?_ ?_);done)); conv => whnf)
  (focus ((repeat' first|exact trivial|exact rfl|exact .inl rfl|exact .inr ⟨rfl,rfl⟩|refine And.intro ?_ ?_);done))
 | some f =>
  rw [hw] at ho
  have ho' : r = _ := ho
  subst ho'
  unfold rdT
  refine fn_prog tabOk mixed Tryz.f31 Tryz.func31 (by kernel_rfl) (by kernel_rfl) ?_
  conv => whnf
  (refine st_call hf ?_ rfl rfl ?_; (focus ((repeat' first|exact trivial|exact rfl|exact .inl rfl|exact .inr ⟨rfl,rfl⟩|refine And.intro ?_ ?_);done)); conv => whnf)
  refine ⟨none, by kernel_rfl, ?_⟩; conv => whnf
  (refine st_call (told_nil_fn p) ?_ rfl rfl ?_; (focus ((repeat' first|exact trivial|exact rfl|exact .inl rfl|exact .inr ⟨rfl,rfl⟩|refine And.intro ?_ ?_);done)); conv => whnf)
  (focus ((repeat' first|exact trivial|exact rfl|exact .inl rfl|exact .inr ⟨rfl,rfl⟩|refine And.intro ?_ ?_);done))
def encO (f : Flt) : Option ByteArray := if rightF 1 f = true ∧ rightN (treeF f) = true then some (bt' (layN (treeF f))) else none
def encR (o : Option ByteArray) : T := match o with
 | some s => .tup [.v (.str s), .v (.int .i64 0)]
 | none => .tup [.v (.str (bt' [])), .v (.int .i64 80)]
set_option maxHeartbeats 4000000 in
theorem Encode_fn (f : Flt) (hf : midF f) (hN : (preF 1 f).length ≤ 900000000) : Fn Tryz.prog (envX p) 34 [.v (.agg (cG f))] (encR (encO f)) := by
 have ht := tree_fn p f hf hN
 unfold treeT at ht
 unfold encO
 cases hR : rightF 1 f
 ·rw [hR, if_neg (by decide)] at ht
  rw [if_neg (fun e => by cases e.1)]
  unfold encR
  refine fn_prog tabOk mixed Tryz.f34 Tryz.func34 (by kernel_rfl) (by kernel_rfl) ?_
  conv => whnf
  (refine st_call ht ?_ rfl rfl ?_; (focus ((repeat' first|exact trivial|exact rfl|exact .inl rfl|exact .inr ⟨rfl,rfl⟩|refine And.intro ?_ ?_);done)); conv => whnf)
  (refine st_call (told_wrong_fn p f.kind) ?_ rfl rfl ?_; (focus ((repeat' first|exact trivial|exact rfl|exact .inl rfl|exact .inr ⟨rfl,rfl⟩|refine And.intro ?_ ?_);done)); conv => whnf)
  (focus ((repeat' first|exact trivial|exact rfl|exact .inl rfl|exact .inr ⟨rfl,rfl⟩|refine And.intro ?_ ?_);done))
 ·rw [hR, if_pos rfl] at ht
  have he := tlvEncode_fn p (treeF f) (Nat.le_trans (tree_bound hR) (by decide))
  unfold encT at he
  cases hN2 : rightN (treeF f)
  ·rw [hN2, if_neg (by decide)] at he
   rw [if_neg (fun e => by cases e.2)]
   unfold encR
   refine fn_prog tabOk mixed Tryz.f34 Tryz.func34 (by kernel_rfl) (by kernel_rfl) ?_
   conv => whnf
   (refine st_call ht ?_ rfl rfl ?_; (focus ((repeat' first|exact trivial|exact rfl|exact .inl rfl|exact .inr ⟨rfl,rfl⟩|refine And.intro ?_ ?_);done)); conv => whnf)
   (refine st_call he ?_ rfl rfl ?_; (focus ((repeat' first|exact trivial|exact rfl|exact .inl rfl|exact .inr ⟨rfl,rfl⟩|refine And.intro ?_ ?_);done)); conv => whnf)
   refine ⟨rfl, cmp_true (by decide) ?_⟩
   conv => whnf
   (refine st_call (told_wrong_fn p (treeF f).tag) ?_ rfl rfl ?_; (focus ((repeat' first|exact trivial|exact rfl|exact .inl rfl|exact .inr ⟨rfl,rfl⟩|refine And.intro ?_ ?_);done)); conv => whnf)
   (focus ((repeat' first|exact trivial|exact rfl|exact .inl rfl|exact .inr ⟨rfl,rfl⟩|refine And.intro ?_ ?_);done))
  ·rw [hN2, if_pos rfl] at he
   rw [if_pos ⟨rfl, rfl⟩]
   unfold encR
   refine fn_prog tabOk mixed Tryz.f34 Tryz.func34 (by kernel_rfl) (by kernel_rfl) ?_
   conv => whnf
   (refine st_call ht ?_ rfl rfl ?_; (focus ((repeat' first|exact trivial|exact rfl|exact .inl rfl|exact .inr ⟨rfl,rfl⟩|refine And.intro ?_ ?_);done)); conv => whnf)
   (refine st_call he ?_ rfl rfl ?_; (focus ((repeat' first|exact trivial|exact rfl|exact .inl rfl|exact .inr ⟨rfl,rfl⟩|refine And.intro ?_ ?_);done)); conv => whnf)
   refine ⟨rfl, cmp_false (by decide) ?_⟩
   conv => whnf
   (focus ((repeat' first|exact trivial|exact rfl|exact .inl rfl|exact .inr ⟨rfl,rfl⟩|refine And.intro ?_ ?_);done))
def decO (s : ByteArray) : Option Flt := match wholeN (bl s) with
 | some n => wholeF n
 | none => none
set_option maxHeartbeats 4000000 in
theorem Decode_fn (s : ByteArray) (hs : s.size ≤ 100000000) : Fn Tryz.prog (envX p) 33 [.v (.str s)] (rdT (decO s)) := by
 have hw := whole_fn p s hs
 unfold wholeT at hw
 unfold decO wholeN
 cases hd : decodedN (bl s) with
 | error er =>
  rw [hd] at hw
  dsimp only at hw
  have her := decoded_err (bl s)
  rw [hd] at her
  obtain ⟨e1, e2⟩ := her
  unfold rdT
  refine fn_prog tabOk mixed Tryz.f33 Tryz.func33 (by kernel_rfl) (by kernel_rfl) ?_
  conv => whnf
  (refine st_call hw ?_ rfl rfl ?_; (focus ((repeat' first|exact trivial|exact rfl|exact .inl rfl|exact .inr ⟨rfl,rfl⟩|refine And.intro ?_ ?_);done)); conv => whnf)
  refine ⟨rfl, cmp_true (by omega) ?_⟩
  conv => whnf
  (refine st_call (told_wrong_fn p 0) ?_ rfl rfl ?_; (focus ((repeat' first|exact trivial|exact rfl|exact .inl rfl|exact .inr ⟨rfl,rfl⟩|refine And.intro ?_ ?_);done)); conv => whnf)
  (focus ((repeat' first|exact trivial|exact rfl|exact .inl rfl|exact .inr ⟨rfl,rfl⟩|refine And.intro ?_ ?_);done))
 | ok q =>
  obtain ⟨n, rest⟩ := q
  rw [hd] at hw
  cases rest with
  | cons b t =>
   dsimp only at hw
   show Fn _ _ _ _ (rdT none)
   unfold rdT
   refine fn_prog tabOk mixed Tryz.f33 Tryz.func33 (by kernel_rfl) (by kernel_rfl) ?_
   conv => whnf
   (refine st_call hw ?_ rfl rfl ?_; (focus ((repeat' first|exact trivial|exact rfl|exact .inl rfl|exact .inr ⟨rfl,rfl⟩|refine And.intro ?_ ?_);done)); conv => whnf)
   refine ⟨rfl, cmp_true (by decide) ?_⟩
   conv => whnf
   (refine st_call (told_wrong_fn p 0) ?_ rfl rfl ?_; (focus ((repeat' first|exact trivial|exact rfl|exact .inl rfl|exact .inr ⟨rfl,rfl⟩|refine And.intro ?_ ?_);done)); conv => whnf)
   (focus ((repeat' first|exact trivial|exact rfl|exact .inl rfl|exact .inr ⟨rfl,rfl⟩|refine And.intro ?_ ?_);done))
  | nil =>
   dsimp only at hw
   have hR := (decoded_le hd).1
   have hrd := Read_fn p n (small_right hR)
   show Fn _ _ _ _ (rdT (wholeF n))
   cases ho : wholeF n with
   | none =>
    rw [ho] at hrd
    unfold rdT at hrd ⊢
    dsimp only at hrd ⊢
    refine fn_prog tabOk mixed Tryz.f33 Tryz.func33 (by kernel_rfl) (by kernel_rfl) ?_
    conv => whnf
    (refine st_call hw ?_ rfl rfl ?_; (focus ((repeat' first|exact trivial|exact rfl|exact .inl rfl|exact .inr ⟨rfl,rfl⟩|refine And.intro ?_ ?_);done)); conv => whnf)
    refine ⟨rfl, cmp_false (by decide) ?_⟩
    conv => whnf
    (refine st_call hrd ?_ rfl rfl ?_; (focus ((repeat' first|exact trivial|exact rfl|exact .inl rfl|exact .inr ⟨rfl,rfl⟩|refine And.intro ?_ ?_);done)); conv => whnf)
    (focus ((repeat' first|exact trivial|exact rfl|exact .inl rfl|exact .inr ⟨rfl,rfl⟩|refine And.intro ?_ ?_);done))
   | some f =>
    rw [ho] at hrd
    unfold rdT at hrd ⊢
    dsimp only at hrd ⊢
    refine fn_prog tabOk mixed Tryz.f33 Tryz.func33 (by kernel_rfl) (by kernel_rfl) ?_
    conv => whnf
    (refine st_call hw ?_ rfl rfl ?_; (focus ((repeat' first|exact trivial|exact rfl|exact .inl rfl|exact .inr ⟨rfl,rfl⟩|refine And.intro ?_ ?_);done)); conv => whnf)
    refine ⟨rfl, cmp_false (by decide) ?_⟩
    conv => whnf
    (refine st_call hrd ?_ rfl rfl ?_; (focus ((repeat' first|exact trivial|exact rfl|exact .inl rfl|exact .inr ⟨rfl,rfl⟩|refine And.intro ?_ ?_);done)); conv => whnf)
    (focus ((repeat' first|exact trivial|exact rfl|exact .inl rfl|exact .inr ⟨rfl,rfl⟩|refine And.intro ?_ ?_);done))
end Go.Proofs.YtiafggoaedifdaaGreatDoor.Fb
