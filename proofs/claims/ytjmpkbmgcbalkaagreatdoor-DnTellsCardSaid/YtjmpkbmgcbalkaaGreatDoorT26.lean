/- Several texts, one behind the other. dn: a text read as a name: parsed, Parse, Canon. Conditions: texts of at most 10^6 bytes. dn: Parse and Canon; dn's laws: what they show first. Conditions: texts of at most 10^6 bytes. dn's laws: DnUnder. Conditions: names that fit into memory. dn's law DnBack: what is read, printed, is read alike. No conditions. latinerref07, walked: names' texts, and names of texts. Conditions: texts of at most 10^6 bytes. -/
import Derived.Test.YtjmpkbmgcbalkaaGreatDoorT25
/- dn: a text read as a name: parsed, Parse, Canon. Conditions: texts of at most 10^6 bytes. -/
namespace Go.Proofs.YtjmpkbmgcbalkaaGreatDoor.Dn
open Go.RowKit
set_option linter.unusedVariables false
variable (p : Nat → Addr)
theorem rdnOf_ok {q : List UInt8} (h : ∀ x ∈ piecesL 43 q, (partA (mkB x)).isSome = true) : rdnOf q = some ((piecesL 43 q).map avaD) :=
  allM_some (f := fun q : List UInt8 => partA ⟨q.toArray⟩) (dflt := avaD) (fun a b hb => by unfold avaD mkB; rw [hb]; rfl) _ h
theorem rdnOf_bad {q x : List UInt8} (hx : x ∈ piecesL 43 q) (h : partA (mkB x) = none) : rdnOf q = none := allM_none (f := fun q : List UInt8 => partA ⟨q.toArray⟩) hx h
theorem badRdn_none {q : List UInt8} (h : (rdnOf q).isSome = true) : badRdn q = none := by
  unfold badRdn
  rw [Option.map_eq_none_iff, List.find?_eq_none]
  intro x hx hn
  rw [rdnOf_bad hx (by simpa using hn)] at h
  cases h
theorem bad_at {s : ByteArray} {i j : Nat} (hs : s.data.toList ≠ []) (hi : i < (piecesL 44 s.data.toList).length) (hpre : ∀ k (hk : k < (piecesL 44 s.data.toList).length), k < i → (rdnOf (piecesL 44 s.data.toList)[k]).isSome = true)
    (hj : j < (piecesL 43 (piecesL 44 s.data.toList)[i]).length) (hpre2 : ∀ k (hk : k < (piecesL 43 (piecesL 44 s.data.toList)[i]).length), k < j → (partA (mkB (piecesL 43 (piecesL 44 s.data.toList)[i])[k])).isSome = true)
    (h : partA (mkB (piecesL 43 (piecesL 44 s.data.toList)[i])[j]) = none) : parsedV s = .tup [.v (.sl []), .v (dnErr (mkB (piecesL 43 (piecesL 44 s.data.toList)[i])[j]))] := by
  have h1 : badRdn (piecesL 44 s.data.toList)[i] = some (mkB (piecesL 43 (piecesL 44 s.data.toList)[i])[j]) := by
    unfold badRdn
    rw [find_first hj (fun k hk => by have := hpre2 k (by omega) hk; rw [Option.isSome_iff_ne_none] at this; rw [Option.isNone_eq_false_iff, Option.isSome_iff_ne_none]; exact this) (by rw [h]; rfl)]
    rfl
  have h2 : badOf s = mkB (piecesL 43 (piecesL 44 s.data.toList)[i])[j] := by
    unfold badOf
    rw [if_neg hs, findSome_first hi (fun k hk => badRdn_none (hpre k (by omega) hk)) h1]
    rfl
  have h3 : parsedL s.data.toList = none := by
    unfold parsedL nameOf
    rw [if_neg hs, allM_none (List.getElem_mem hi) (rdnOf_bad (List.getElem_mem hj) h)]
    rfl
  unfold parsedV
  rw [h3, h2]
theorem good_at {s : ByteArray} (hs : s.data.toList ≠ []) (h : ∀ q ∈ piecesL 44 s.data.toList, (rdnOf q).isSome = true) : nameOf s.data.toList = some ((piecesL 44 s.data.toList).map rdnD) :=
  allM_some (f := rdnOf) (dflt := rdnD) (fun a b hb => by unfold rdnD; rw [hb]; rfl) _ h
theorem parsed_good {s : ByteArray} {d : Name} (hs : s.data.toList ≠ []) (hn : nameOf s.data.toList = some d) (hr : rightB d = true) : parsedV s = .tup [.v (vName d), .v .nili] := by
  have h3 : parsedL s.data.toList = some d := by
    unfold parsedL
    rw [if_neg hs, hn]
    simp [hr]
  unfold parsedV
  rw [h3]
theorem allM_isSome {α β : Type} {f : α → Option β} : ∀ {l : List α} {m : List β}, allM f l = some m → ∀ a ∈ l, (f a).isSome = true
  | [], m, h, a, ha => by cases ha
  | b :: t, m, h, a, ha => by
    rw [allM] at h
    cases hb : f b with
    | none => rw [hb] at h; cases h
    | some y =>
      rw [hb] at h
      dsimp only at h
      rcases List.mem_cons.1 ha with rfl | ha
      · rw [hb]; rfl
      · obtain ⟨m', h1, _⟩ := Option.map_eq_some_iff.1 h
        exact allM_isSome h1 a ha
theorem parsed_wrong {s : ByteArray} {d : Name} (hs : s.data.toList ≠ []) (hn : nameOf s.data.toList = some d) (hr : rightB d = false) : parsedV s = .tup [.v (.sl []), .v (dnErr s)] := by
  have h3 : parsedL s.data.toList = none := by
    unfold parsedL
    rw [if_neg hs, hn]
    simp [hr]
  have h2 : badOf s = s := by
    unfold badOf
    rw [if_neg hs, List.findSome?_eq_none_iff.2 (fun q hq => badRdn_none (allM_isSome hn q hq))]
    rfl
  unfold parsedV
  rw [h3, h2]
theorem mkB_size (l : List UInt8) : (mkB l).size = l.length := rfl
theorem getElem?_map_some {α : Type} {f : α → List V} {l : List α} {i : Nat} {v : List V} (h : (l.map f)[i]? = some v) : ∃ hi : i < l.length, v = f l[i] := by
  rw [List.getElem?_map, Option.map_eq_some_iff] at h
  obtain ⟨a, h1, h2⟩ := h
  obtain ⟨hi, h3⟩ := List.getElem?_eq_some_iff.1 h1
  exact ⟨hi, by rw [h3, h2]⟩
theorem parsed_fn (s : ByteArray) (hs : s.size ≤ 1000000) : Fn Tryz.prog (envX p) 32 [.v (.str s)] (parsedV s) := by
  have hsl := Txt.size_list s
  refine fn_prog tabOk mixed Tryz.f32 Tryz.func32 (by kernel_rfl) (by kernel_rfl) ?_
  conv => whnf
  refine cmp_split (fun h => ?_) (fun h => ?_)
  · subst h
    conv => whnf
    exact ⟨⟨.inr ⟨rfl, rfl⟩, .inl rfl, trivial⟩, rfl⟩
  · have hne : s.data.toList ≠ [] := fun e => h (by cases s with | mk data => cases data with | mk l => simp at e; rw [e])
    have hpl := pieces_le 44 s.data.toList
    generalize hPP : piecesL 44 s.data.toList = PP at hpl
    conv => whnf
    refine st_call (pieces_fn p s 44) ⟨.inl rfl, trivial⟩ rfl rfl ?_
    conv => whnf
    refine ⟨_, _, fun i => ⟨47, [(0, .v (.str s)), (2, .ptr 2 0), (3, .ptr 3 0), (4, .ptr 4 0)], [(2, [.v .nils]), (3, [.v .nili]), (4, [.own 39 42 ((PP.take i).map fun q => cRdn (rdnD q))])], [(39, some 42)]⟩, fun i => ∀ k (hk : k < PP.length), k < i → (rdnOf PP[k]).isSome = true, pieces_it p s 44 (by omega) (by decide), ⟨rfl, trivial⟩, rfl, ⟨fun _ _ hk => absurd hk (Nat.not_lt_zero _), ?_⟩, fun _ => rfl, ?_, fun i v hv hinv => ?_, fun hinv => ?_⟩
    · exact ⟨[(39, none)], rfl, rfl, ⟨.inl rfl, ⟨rfl, rfl⟩, ⟨rfl, rfl⟩, ⟨rfl, rfl⟩, trivial⟩, ⟨⟨.inl rfl, trivial⟩, ⟨.inl rfl, trivial⟩, ⟨⟨rfl, rfl, rfl⟩, trivial⟩, trivial⟩, ⟨trivial, trivial⟩⟩
    · exact fun x hx => by simp at hx; subst hx; show 16 < 47; decide
    · rw [hPP] at hv
      obtain ⟨hi, rfl⟩ := getElem?_map_some hv
      refine ⟨rfl, ?_⟩
      have hyl := hpl.1 _ (List.getElem_mem hi)
      have hql := pieces_le 43 PP[i]
      generalize hQQ : piecesL 43 PP[i] = QQ at hql
      conv => whnf
      refine st_call (pieces_fn p (mkB PP[i]) 43) ⟨.inl rfl, trivial⟩ rfl rfl ?_
      conv => whnf
      refine ⟨_, _, fun j => ⟨47, [(0, .v (.str s)), (2, .ptr 2 0), (3, .ptr 3 0), (4, .ptr 4 0), (6, .ptr 6 0)], [(2, [.v .nils]), (3, [.v .nili]), (4, [.own 39 42 ((PP.take i).map fun q => cRdn (rdnD q))]), (6, [.own 34 39 ((QQ.take j).map fun x => cAva (avaD x))])], [(39, some 42), (34, some 39)]⟩, fun j => ∀ k (hk : k < QQ.length), k < j → (partA (mkB QQ[k])).isSome = true, pieces_it p (mkB PP[i]) 43 (by rw [mkB_size]; omega) (by decide), ⟨rfl, trivial⟩, rfl, ⟨fun _ _ hk => absurd hk (Nat.not_lt_zero _), ?_⟩, fun _ => rfl, ?_, fun j v hv hinv2 => ?_, fun hinv2 => ?_⟩
      · exact ⟨[(39, some 39), (34, none)], rfl, rfl, ⟨.inl rfl, ⟨rfl, rfl⟩, ⟨rfl, rfl⟩, ⟨rfl, rfl⟩, ⟨rfl, rfl⟩, trivial⟩, ⟨⟨.inl rfl, trivial⟩, ⟨.inl rfl, trivial⟩, ⟨⟨rfl, rfl, rfl⟩, trivial⟩, ⟨⟨rfl, rfl, rfl⟩, trivial⟩, trivial⟩, ⟨rfl, trivial, trivial⟩⟩
      · exact fun x hx => by simp at hx; subst hx; show 21 < 47; decide
      · rw [mkB_list, hQQ] at hv
        obtain ⟨hj, rfl⟩ := getElem?_map_some hv
        refine ⟨rfl, ?_⟩
        have hzl := hql.1 _ (List.getElem_mem hj)
        have hP := part_fn p (mkB QQ[j]) (by rw [mkB_size]; omega)
        unfold partV at hP
        cases ha : partA (mkB QQ[j]) with
        | none =>
          rw [ha] at hP
          dsimp only at hP
          have hbad : parsedV s = .tup [.v (.sl []), .v (dnErr (mkB QQ[j]))] := by
            subst hPP; subst hQQ
            exact bad_at hne hi hinv hj hinv2 ha
          rw [hbad]
          conv => whnf
          refine st_call hP ⟨.inl rfl, trivial⟩ rfl rfl ?_
          conv => whnf
          refine ⟨[], ⟨47, [(2, .ptr 2 0), (3, .ptr 3 0)], [(2, [.v .nils]), (3, [.v (dnErr (mkB QQ[j]))])], []⟩, ⟨rfl, rfl, ⟨⟨rfl, rfl⟩, ⟨rfl, rfl⟩, trivial⟩, ⟨⟨.inl rfl, trivial⟩, ⟨.inl rfl, trivial⟩, trivial⟩, trivial⟩, rfl, ?_⟩
          conv => whnf
          refine ⟨[], ⟨47, [(2, .ptr 2 0), (3, .ptr 3 0)], [(2, [.v .nils]), (3, [.v (dnErr (mkB QQ[j]))])], []⟩, ⟨rfl, rfl, ⟨⟨rfl, rfl⟩, ⟨rfl, rfl⟩, trivial⟩, ⟨⟨.inl rfl, trivial⟩, ⟨.inl rfl, trivial⟩, trivial⟩, trivial⟩, rfl, ?_⟩
          conv => whnf
          exact ⟨⟨.inr ⟨rfl, rfl⟩, .inl rfl, trivial⟩, rfl⟩
        | some a =>
          rw [ha] at hP
          dsimp only at hP
          conv => whnf
          refine st_call hP ⟨.inl rfl, trivial⟩ rfl rfl ?_
          conv => whnf
          have had : avaD QQ[j] = a := by unfold avaD; rw [ha]; rfl
          refine st_app (by rw [List.length_map, List.length_take, List.length_singleton]; omega) (by simp [V.cells]) (show _ = (QQ.take (j + 1)).map fun x => cAva (avaD x) from by rw [← map_take_succ (enc := fun x => cAva (avaD x)) hj, had]; rfl) ?_
          conv => whnf
          refine ⟨fun k hk hkj => ?_, [(39, some 39), (34, some 34)], ?_⟩
          · rcases Nat.lt_succ_iff_lt_or_eq.1 hkj with h | h
            · exact hinv2 k hk h
            · subst h; rw [ha]; rfl
          · exact ⟨rfl, rfl, ⟨.inl rfl, ⟨rfl, rfl⟩, ⟨rfl, rfl⟩, ⟨rfl, rfl⟩, ⟨rfl, rfl⟩, trivial⟩, ⟨⟨.inl rfl, trivial⟩, ⟨.inl rfl, trivial⟩, ⟨⟨rfl, rfl, rfl⟩, trivial⟩, ⟨⟨rfl, rfl, rfl⟩, trivial⟩, trivial⟩, ⟨rfl, rfl, trivial⟩⟩
      · rw [List.length_map, mkB_list, hQQ]
        rw [List.length_map, mkB_list, hQQ] at hinv2
        have hok : ∀ x ∈ piecesL 43 PP[i], (partA (mkB x)).isSome = true := fun x hx => by
          rw [hQQ] at hx
          obtain ⟨k, hk, rfl⟩ := List.getElem_of_mem hx
          exact hinv2 k hk hk
        have hrd : rdnD PP[i] = QQ.map avaD := by unfold rdnD; rw [rdnOf_ok hok, hQQ]; rfl
        have hsome : (rdnOf PP[i]).isSome = true := by rw [rdnOf_ok hok]; rfl
        conv => whnf
        refine st_app (by rw [List.length_map, List.length_take, List.length_singleton]; omega) (by simp [V.cells]) (show _ = (PP.take (i + 1)).map fun q => cRdn (rdnD q) from by rw [← map_take_succ (enc := fun q => cRdn (rdnD q)) hi, hrd, cRdn, List.map_map, List.take_length]; rfl) ?_
        conv => whnf
        refine ⟨fun k hk hki => ?_, [(39, some 39)], ?_⟩
        · rcases Nat.lt_succ_iff_lt_or_eq.1 hki with h | h
          · exact hinv k hk h
          · subst h; exact hsome
        · exact ⟨rfl, rfl, ⟨.inl rfl, ⟨rfl, rfl⟩, ⟨rfl, rfl⟩, ⟨rfl, rfl⟩, trivial⟩, ⟨⟨.inl rfl, trivial⟩, ⟨.inl rfl, trivial⟩, ⟨⟨rfl, rfl, rfl⟩, trivial⟩, trivial⟩, ⟨rfl, trivial⟩⟩
    · rw [List.length_map, hPP]
      rw [List.length_map, hPP] at hinv
      have hok : ∀ q ∈ piecesL 44 s.data.toList, (rdnOf q).isSome = true := fun q hq => by
        rw [hPP] at hq
        obtain ⟨k, hk, rfl⟩ := List.getElem_of_mem hq
        exact hinv k hk hk
      have hgood := good_at hne hok
      rw [hPP] at hgood
      generalize hd : PP.map rdnD = d at hgood
      have hR := right_fn p d
      have hvd : V.sl ((PP.take PP.length).map fun q => cRdn (rdnD q)) = vName d := by
        rw [List.take_length, ← hd, vName, List.map_map]; rfl
      cases hr : rightB d with
      | false =>
        rw [hr] at hR
        rw [parsed_wrong hne hgood hr]
        conv => whnf
        refine st_call hR ⟨hvd.symm, trivial⟩ rfl rfl ?_
        conv => whnf
        exact ⟨⟨.inr ⟨rfl, rfl⟩, .inl rfl, trivial⟩, rfl⟩
      | true =>
        rw [hr] at hR
        rw [parsed_good hne hgood hr]
        conv => whnf
        refine st_call hR ⟨hvd.symm, trivial⟩ rfl rfl ?_
        conv => whnf
        exact ⟨⟨hvd.symm, .inl rfl, trivial⟩, rfl⟩
end Go.Proofs.YtjmpkbmgcbalkaaGreatDoor.Dn
/- dn: Parse and Canon; dn's laws: what they show first. Conditions: texts of at most 10^6 bytes. -/
namespace Go.Proofs.YtjmpkbmgcbalkaaGreatDoor.Dn
open Go.RowKit
set_option linter.unusedVariables false
variable (p : Nat → Addr)
def parsedD (s : ByteArray) : Name := (parsedL s.data.toList).getD []
def parsedOk (s : ByteArray) : Bool := (parsedL s.data.toList).isSome
def canonB (s : ByteArray) : ByteArray := if parsedOk s = true then mkB (nameL (parsedD s)) else ⟨#[]⟩
theorem parse_fn (s : ByteArray) (hs : s.size ≤ 1000000) : Fn Tryz.prog (envX p) 15 [.v (.str s)] (.tup [.v (vName (parsedD s)), .v (.int .i64 (codeN (parsedOk s)))]) := by
  have hP := parsed_fn p s hs
  unfold parsedV at hP
  unfold parsedD parsedOk codeN
  cases hd : parsedL s.data.toList with
  | none =>
    rw [hd] at hP
    refine fn_prog tabOk mixed Tryz.f15 Tryz.func15 (by kernel_rfl) (by kernel_rfl) ?_
    conv => whnf
    refine st_call hP ⟨.inl rfl, trivial⟩ rfl rfl ?_
    conv => whnf
    refine st_call (told_wrong_fn p _) ⟨.inl rfl, trivial⟩ rfl rfl ?_
    conv => whnf
    exact ⟨⟨.inl rfl, .inl rfl, trivial⟩, rfl⟩
  | some d =>
    rw [hd] at hP
    refine fn_prog tabOk mixed Tryz.f15 Tryz.func15 (by kernel_rfl) (by kernel_rfl) ?_
    conv => whnf
    refine st_call hP ⟨.inl rfl, trivial⟩ rfl rfl ?_
    conv => whnf
    refine st_call (told_nil_fn p) ⟨.inl rfl, trivial⟩ rfl rfl ?_
    conv => whnf
    exact ⟨⟨.inl rfl, .inl rfl, trivial⟩, rfl⟩
theorem canon_fn (s : ByteArray) (hs : s.size ≤ 1000000) : Fn Tryz.prog (envX p) 17 [.v (.str s)] (.tup [.v (.str (canonB s)), .v (.int .i64 (codeN (parsedOk s)))]) := by
  have hP := parsed_fn p s hs
  unfold parsedV at hP
  unfold canonB parsedD parsedOk codeN
  cases hd : parsedL s.data.toList with
  | none =>
    rw [hd] at hP
    refine fn_prog tabOk mixed Tryz.f17 Tryz.func17 (by kernel_rfl) (by kernel_rfl) ?_
    conv => whnf
    refine st_call hP ⟨.inl rfl, trivial⟩ rfl rfl ?_
    conv => whnf
    refine st_call (told_wrong_fn p _) ⟨.inl rfl, trivial⟩ rfl rfl ?_
    conv => whnf
    exact ⟨⟨.inl rfl, .inl rfl, trivial⟩, rfl⟩
  | some d =>
    rw [hd] at hP
    refine fn_prog tabOk mixed Tryz.f17 Tryz.func17 (by kernel_rfl) (by kernel_rfl) ?_
    conv => whnf
    refine st_call hP ⟨.inl rfl, trivial⟩ rfl rfl ?_
    conv => whnf
    refine st_call (printed_fn p d (right_small (parsed_right _ _ hd))) ⟨.inl rfl, trivial⟩ rfl rfl ?_
    conv => whnf
    exact ⟨⟨.inl rfl, .inl rfl, trivial⟩, rfl⟩
def cutS (s : ByteArray) : ByteArray := s.extract 0 (min s.size 300)
theorem cutS_fn (X : En) (s : ByteArray) : Fn Tryz.prog X 12 [.v (.str s)] (.v (.str (cutS s))) := by
  refine fn_prog tabOk mixed Tryz.f12 Tryz.func12 (by kernel_rfl) (by kernel_rfl) ?_
  conv => whnf
  refine st_min 300 ?_
  conv => whnf
  refine st_cut 0 (min s.size 300) rfl rfl (by omega) (by omega) ?_
  conv => whnf
  exact ⟨.inl rfl, rfl⟩
def shN : Name := [[(⟨#[99, 110]⟩, ⟨#[97, 44, 98]⟩), (⟨#[115, 110]⟩, ⟨#[99]⟩)], [(⟨#[111]⟩, ⟨#[120]⟩)]]
def shA : ByteArray := ⟨#[99, 110, 61, 97, 92, 50, 99, 98, 43, 115, 110, 61, 99, 44, 111, 61, 120]⟩
def shB : ByteArray := ⟨#[99, 110, 61, 97, 44, 32, 111, 61, 120]⟩
theorem sh1 : rightB shN = true := by decide +kernel
theorem sh2 : mkB (nameL shN) = ⟨#[99, 110, 61, 97, 92, 44, 98, 43, 115, 110, 61, 99, 44, 111, 61, 120]⟩ := by decide +kernel
theorem sh3 : parsedL shA.data.toList = some shN := by decide +kernel
theorem sh4 : parsedL shB.data.toList = none := by decide +kernel
theorem shown_fn : Fn Tryz.prog (envX p) 10 [] (.v (.bool true)) := by
  have p1 := print_fn p shN
  have p2 := parse_fn p shA (by decide)
  have p3 := canon_fn p shA (by decide)
  have p4 := parse_fn p shB (by decide)
  unfold printedB at p1
  unfold parsedD parsedOk at p2
  unfold canonB parsedD parsedOk at p3
  unfold parsedD parsedOk at p4
  rw [sh3] at p2 p3
  rw [sh4] at p4
  rw [if_pos sh1, sh1, sh2] at p1
  change Fn _ _ _ _ (.tup [.v (vName shN), .v (.int .i64 0)]) at p2
  change Fn _ _ _ _ (.tup [.v (.str (mkB (nameL shN))), .v (.int .i64 0)]) at p3
  change Fn _ _ _ _ (.tup [.v (vName []), .v (.int .i64 70)]) at p4
  rw [sh2] at p3
  change Fn _ _ _ _ (.tup [_, .v (.int .i64 0)]) at p1
  have p5 := same_fn p shN shN ⟨by decide, by decide⟩
  have p6 := under_fn p shN (shN.drop 1) ⟨by decide, by decide⟩ (by decide)
  have p7 := under_fn p (shN.drop 1) shN ⟨by decide, by decide⟩ (by decide)
  have p8 := type_fn p ⟨#[50, 46, 53, 46, 52, 46, 51]⟩
  have p9 := type_fn p ⟨#[50, 46, 48, 53]⟩
  rw [show decide (shN = shN) = true by simp] at p5
  rw [show underB shN (shN.drop 1) = true by decide +kernel] at p6
  rw [show underB (shN.drop 1) shN = false by decide +kernel] at p7
  rw [show typeB (⟨#[50, 46, 53, 46, 52, 46, 51]⟩ : ByteArray).data.toList = true by decide +kernel] at p8
  rw [show typeB (⟨#[50, 46, 48, 53]⟩ : ByteArray).data.toList = false by decide +kernel] at p9
  refine fn_prog tabOk mixed Tryz.f10 Tryz.func10 (by kernel_rfl) (by kernel_rfl) ?_
  conv => whnf
  refine st_call p1 ⟨rfl, trivial⟩ rfl rfl ?_
  conv => whnf
  refine st_call p2 ⟨.inl rfl, trivial⟩ rfl rfl ?_
  conv => whnf
  refine st_call p3 ⟨.inl rfl, trivial⟩ rfl rfl ?_
  conv => whnf
  refine st_call p4 ⟨.inl rfl, trivial⟩ rfl rfl ?_
  conv => whnf
  refine cmp_true rfl ?_
  conv => whnf
  refine ⟨rfl, cmp_true rfl ?_⟩
  conv => whnf
  refine ⟨rfl, cmp_true rfl ?_⟩
  conv => whnf
  refine st_call p5 ⟨rfl, .inl rfl, trivial⟩ rfl rfl ?_
  conv => whnf
  refine cmp_true rfl ?_
  conv => whnf
  refine ⟨rfl, cmp_true rfl ?_⟩
  conv => whnf
  refine ⟨rfl, cmp_true rfl ?_⟩
  conv => whnf
  refine st_sub 1 2 rfl rfl (by decide) (by decide) (by simp [V.cells]) (z := (shN.drop 1).map cRdn) rfl ?_
  conv => whnf
  refine st_call p6 ⟨rfl, .inl rfl, trivial⟩ rfl rfl ?_
  conv => whnf
  refine st_sub 1 2 rfl rfl (by decide) (by decide) (by simp [V.cells]) (z := (shN.drop 1).map cRdn) rfl ?_
  conv => whnf
  refine st_call p7 ⟨.inl rfl, rfl, trivial⟩ rfl rfl ?_
  conv => whnf
  refine st_call p8 ⟨.inl rfl, trivial⟩ rfl rfl ?_
  conv => whnf
  refine st_call p9 ⟨.inl rfl, trivial⟩ rfl rfl ?_
  conv => whnf
  exact ⟨.inl rfl, rfl⟩
end Go.Proofs.YtjmpkbmgcbalkaaGreatDoor.Dn
/- dn's laws: DnUnder. Conditions: names that fit into memory. -/
namespace Go.Proofs.YtjmpkbmgcbalkaaGreatDoor.Dn
open Go.RowKit
set_option linter.unusedVariables false
variable (p : Nat → Addr)
theorem cut_small (d : Name) : Small (cutName d) := by
  refine ⟨by simp [cutName]; omega, fun r hr => ?_⟩
  obtain ⟨r, h1, rfl⟩ := List.mem_map.1 hr
  refine ⟨by simp [cutRdn]; omega, fun a ha => ?_⟩
  obtain ⟨a, h2, rfl⟩ := List.mem_map.1 ha
  exact ⟨by simp [cutAva, cutB]; omega, by simp [cutAva, cutB]; omega⟩
theorem Small.ok {d : Name} (h : Small d) : NameOk d := ⟨by have := h.len; omega, fun r hr => by have := (h.row r hr).1; omega⟩
theorem under_iff (d b : Name) : underB d b = true ↔ b <:+ d := by
  unfold underB
  rw [Bool.and_eq_true, decide_eq_true_eq, decide_eq_true_eq, List.suffix_iff_eq_drop]
  exact ⟨fun h => h.2.symm, fun h => ⟨by have := congrArg List.length h; rw [List.length_drop] at this; omega, h.symm⟩⟩
set_option maxRecDepth 100000 in
theorem under_law (x0 y0 z0 : Name) : Fn Tryz.prog (envX p) 5 [.v (vName x0), .v (vName y0), .v (vName z0)] (.v (.bool true)) := by
  have c1 := cut_fn (envX p) x0
  have c2 := cut_fn (envX p) y0
  have c3 := cut_fn (envX p) z0
  have sx := cut_small x0
  have sy := cut_small y0
  have sz := cut_small z0
  generalize cutName x0 = x at *
  generalize cutName y0 = y at *
  generalize cutName z0 = z at *
  have hlx := sx.len
  have hly := sy.len
  have hlz := sz.len
  have u1 := under_fn p x y sx.ok (by omega)
  have u2 := under_fn p y z sy.ok (by omega)
  have u3 := under_fn p x z sx.ok (by omega)
  have u4 := under_fn p y x sy.ok (by omega)
  have u5 := under_fn p x x sx.ok (by omega)
  have u6 := under_fn p x [] sx.ok (by decide)
  have u7 := under_fn p (x ++ y) y ⟨by rw [List.length_append]; omega, fun r hr => (List.mem_append.1 hr).elim (sx.ok.2 r) (sy.ok.2 r)⟩ (by omega)
  have u8 := same_fn p x y sx.ok
  rw [(under_iff _ _).2 (List.suffix_refl _)] at u5
  rw [(under_iff _ _).2 List.nil_suffix] at u6
  rw [(under_iff _ _).2 (List.suffix_append _ _)] at u7
  have f1 : underB x y = true → underB y z = true → underB x z = true := fun h1 h2 => (under_iff _ _).2 (((under_iff _ _).1 h2).trans ((under_iff _ _).1 h1))
  have f2 : decide (x = y) = (underB x y && underB y x) := by
    rw [Bool.eq_iff_iff, Bool.and_eq_true, decide_eq_true_eq, under_iff, under_iff]
    exact ⟨fun h => by subst h; exact ⟨List.suffix_refl _, List.suffix_refl _⟩, fun ⟨h1, h2⟩ => h2.eq_of_length (Nat.le_antisymm h2.length_le h1.length_le)⟩
  rw [f2] at u8
  generalize underB x y = b1 at *
  generalize underB y z = b2 at *
  generalize underB x z = b3 at *
  generalize underB y x = b4 at *
  refine fn_prog tabOk mixed Tryz.f5 Tryz.func5 (by kernel_rfl) (by kernel_rfl) ?_
  conv => whnf
  refine st_call (shown_fn p) trivial rfl rfl ?_
  conv => whnf
  refine st_call c1 ⟨.inl rfl, trivial⟩ rfl rfl ?_
  conv => whnf
  refine st_call c2 ⟨.inl rfl, trivial⟩ rfl rfl ?_
  conv => whnf
  refine st_call c3 ⟨.inl rfl, trivial⟩ rfl rfl ?_
  conv => whnf
  refine ⟨by rw [List.length_map]; omega, by simp [cRdn], ?_⟩
  conv => whnf
  refine st_app (zs := (x ++ y).map cRdn) (by simp; omega) (by simp [cRdn]) (List.map_append ..).symm ?_
  conv => whnf
  cases b1 <;> cases b2 <;> cases b3 <;> cases b4 <;> first | exact absurd (f1 rfl rfl) (by decide) | skip
  all_goals
    (refine st_call u1 ?_ rfl rfl ?_; (focus ((repeat' (first | exact trivial | exact rfl | exact Or.inl rfl | exact Or.inr ⟨rfl, rfl⟩ | refine And.intro ?_ ?_)); done)); conv => whnf)
    try (refine st_call u2 ?_ rfl rfl ?_; (focus ((repeat' (first | exact trivial | exact rfl | exact Or.inl rfl | exact Or.inr ⟨rfl, rfl⟩ | refine And.intro ?_ ?_)); done)); conv => whnf)
    (refine st_call u5 ?_ rfl rfl ?_; (focus ((repeat' (first | exact trivial | exact rfl | exact Or.inl rfl | exact Or.inr ⟨rfl, rfl⟩ | refine And.intro ?_ ?_)); done)); conv => whnf)
    (refine st_call u6 ?_ rfl rfl ?_; (focus ((repeat' (first | exact trivial | exact rfl | exact Or.inl rfl | exact Or.inr ⟨rfl, rfl⟩ | refine And.intro ?_ ?_)); done)); conv => whnf)
    (refine st_call u7 ?_ rfl rfl ?_; (focus ((repeat' (first | exact trivial | exact rfl | exact Or.inl rfl | exact Or.inr ⟨rfl, rfl⟩ | refine And.intro ?_ ?_)); done)); conv => whnf)
    try (refine st_call u3 ?_ rfl rfl ?_; (focus ((repeat' (first | exact trivial | exact rfl | exact Or.inl rfl | exact Or.inr ⟨rfl, rfl⟩ | refine And.intro ?_ ?_)); done)); conv => whnf)
    try (refine st_call u1 ?_ rfl rfl ?_; (focus ((repeat' (first | exact trivial | exact rfl | exact Or.inl rfl | exact Or.inr ⟨rfl, rfl⟩ | refine And.intro ?_ ?_)); done)); conv => whnf)
    try (refine st_call u4 ?_ rfl rfl ?_; (focus ((repeat' (first | exact trivial | exact rfl | exact Or.inl rfl | exact Or.inr ⟨rfl, rfl⟩ | refine And.intro ?_ ?_)); done)); conv => whnf)
    (refine st_call u8 ?_ rfl rfl ?_; (focus ((repeat' (first | exact trivial | exact rfl | exact Or.inl rfl | exact Or.inr ⟨rfl, rfl⟩ | refine And.intro ?_ ?_)); done)); conv => whnf)
    refine cmp_true rfl ?_
    conv => whnf
    exact ⟨.inl rfl, rfl⟩
end Go.Proofs.YtjmpkbmgcbalkaaGreatDoor.Dn
/- dn's law DnBack: what is read, printed, is read alike. No conditions. -/
namespace Go.Proofs.YtjmpkbmgcbalkaaGreatDoor.Dn
open Go.RowKit
set_option linter.unusedVariables false
variable (p : Nat → Addr)
theorem right_row {d : Name} (h : rightB d = true) : d.length ≤ 8 ∧ ∀ r ∈ d, rdnB r = true := by
  unfold rightB at h
  simp only [Bool.and_eq_true, decide_eq_true_eq] at h
  exact ⟨h.1, List.all_eq_true.1 h.2⟩
theorem right_mk {d : Name} (h1 : d.length ≤ 8) (h2 : ∀ r ∈ d, rdnB r = true) : rightB d = true := by
  unfold rightB
  simp only [Bool.and_eq_true, decide_eq_true_eq]
  exact ⟨h1, List.all_eq_true.2 h2⟩
theorem right_len {d : Name} (h : rightB d = true) : (nameL d).length ≤ 5000 := by
  obtain ⟨h1, h2⟩ := right_row h
  have hr : ∀ r ∈ d, (rdnL r).length ≤ 606 := fun r hr => by
    have h3 := h2 r hr
    unfold rdnB at h3
    simp only [Bool.and_eq_true, decide_eq_true_eq] at h3
    have h4 := joinC_len 43 201 (r.map avaL) (fun x hx => by
      obtain ⟨a, ha, rfl⟩ := List.mem_map.1 hx
      have h5 := List.all_eq_true.1 h3.2.2 a ha
      unfold avaB typeB at h5
      simp only [Bool.and_eq_true, decide_eq_true_eq] at h5
      have h6 := Esc.outF_len (Esc.nameR a.2.size) a.2.data.toList 0
      have h7 := Txt.size_list a.2
      simp only [avaL, List.length_append, List.length_cons]
      omega)
    rw [List.length_map] at h4
    have := Nat.mul_le_mul_right (201 + 1) h3.2.1
    unfold rdnL
    omega
  have h4 := joinC_len 44 606 (d.map rdnL) (fun x hx => by obtain ⟨r, h5, rfl⟩ := List.mem_map.1 hx; exact hr r h5)
  rw [List.length_map] at h4
  have := Nat.mul_le_mul_right (606 + 1) h1
  unfold nameL
  omega
theorem parsed_of {s : ByteArray} {d : Name} (h : parsedL s.data.toList = some d) : parsedD s = d ∧ parsedOk s = true ∧ canonB s = mkB (nameL d) := by
  have h2 : parsedOk s = true := by unfold parsedOk; rw [h]; rfl
  have h1 : parsedD s = d := by unfold parsedD; rw [h]; rfl
  exact ⟨h1, h2, by unfold canonB; rw [if_pos h2, h1]⟩
theorem parsed_no {s : ByteArray} (h : parsedL s.data.toList = none) : parsedD s = [] ∧ parsedOk s = false ∧ canonB s = ⟨#[]⟩ := by
  have h2 : parsedOk s = false := by unfold parsedOk; rw [h]; rfl
  have h1 : parsedD s = [] := by unfold parsedD; rw [h]; rfl
  exact ⟨h1, h2, by unfold canonB; rw [if_neg (by rw [h2]; decide)]⟩
theorem cutS_size (s : ByteArray) : (cutS s).size ≤ 300 := by simp [cutS]; omega
set_option maxRecDepth 100000 in
set_option maxHeartbeats 4000000 in
theorem back_law (x0 : Name) (s0 : ByteArray) : Fn Tryz.prog (envX p) 4 [.v (vName x0), .v (.str s0)] (.v (.bool true)) := by
  have c1 := cut_fn (envX p) x0
  have c2 := cutS_fn (envX p) s0
  have sx := cut_small x0
  have ss := cutS_size s0
  generalize cutName x0 = x at *
  generalize cutS s0 = s at *
  have q1 := print_fn p x
  have q3 := parse_fn p s (by omega)
  have q4 := canon_fn p s (by omega)
  have q5 := right_fn p x
  have q6 := same_fn p x x sx.ok
  rw [decide_eq_true rfl] at q6
  -- what is printed, read
  have q2 : Fn Tryz.prog (envX p) 15 [.v (.str (printedB x))] (.tup [.v (vName (if rightB x = true then x else [])), .v (.int .i64 0)]) := by
    unfold printedB
    cases hr : rightB x with
    | true =>
      have hl : parsedL (mkB (nameL x)).data.toList = some x := by rw [mkB_list]; exact parse_print x hr
      have := parse_fn p (mkB (nameL x)) (by rw [mkB_size]; have := right_len hr; omega)
      rw [(parsed_of hl).1, (parsed_of hl).2.1] at this
      exact this
    | false => exact parse_fn p ⟨#[]⟩ (by decide)
  -- what is read, printed and read
  have q7 : ∀ d, parsedL s.data.toList = some d → Fn Tryz.prog (envX p) 15 [.v (.str (mkB (nameL d)))] (.tup [.v (vName d), .v (.int .i64 0)]) ∧ Fn Tryz.prog (envX p) 17 [.v (.str (mkB (nameL d)))] (.tup [.v (.str (mkB (nameL d))), .v (.int .i64 0)]) ∧ Fn Tryz.prog (envX p) 19 [.v (vName d)] (.v (.bool true)) ∧ Fn Tryz.prog (envX p) 21 [.v (vName d), .v (vName d)] (.v (.bool true)) := fun d hd => by
    have hr := parsed_right _ _ hd
    have hl : parsedL (mkB (nameL d)).data.toList = some d := by rw [mkB_list]; exact parse_print d hr
    have hz : (mkB (nameL d)).size ≤ 1000000 := by rw [mkB_size]; have := right_len hr; omega
    have e1 := parse_fn p (mkB (nameL d)) hz
    have e2 := canon_fn p (mkB (nameL d)) hz
    have e3 := right_fn p d
    have e4 := same_fn p d d (right_small hr).ok
    rw [(parsed_of hl).1, (parsed_of hl).2.1] at e1
    rw [(parsed_of hl).2.2, (parsed_of hl).2.1] at e2
    rw [hr] at e3
    rw [decide_eq_true rfl] at e4
    exact ⟨e1, e2, e3, e4⟩
  have q8 := parse_fn p ⟨#[]⟩ (by decide)
  have q9 := canon_fn p ⟨#[]⟩ (by decide)
  change Fn _ _ _ _ (.tup [.v (vName []), .v (.int .i64 0)]) at q8
  change Fn _ _ _ _ (.tup [.v (.str ⟨#[]⟩), .v (.int .i64 0)]) at q9
  have sh := shown_fn p
  cases hr : rightB x
  all_goals cases hd : parsedL s.data.toList with
  | none =>
    rw [hr] at q1 q2 q5
    rw [(parsed_no hd).1, (parsed_no hd).2.1] at q3
    rw [(parsed_no hd).2.2, (parsed_no hd).2.1] at q4
    refine fn_prog tabOk mixed Tryz.f4 Tryz.func4 (by kernel_rfl) (by kernel_rfl) ?_
    conv => whnf
    (repeat (first | (refine st_call sh ?_ rfl rfl ?_; (focus ((repeat' (first | exact trivial | exact rfl | exact Or.inl rfl | exact Or.inr ⟨rfl, rfl⟩ | refine And.intro ?_ ?_)); done)); conv => whnf) | (refine st_call c1 ?_ rfl rfl ?_; (focus ((repeat' (first | exact trivial | exact rfl | exact Or.inl rfl | exact Or.inr ⟨rfl, rfl⟩ | refine And.intro ?_ ?_)); done)); conv => whnf) | (refine st_call c2 ?_ rfl rfl ?_; (focus ((repeat' (first | exact trivial | exact rfl | exact Or.inl rfl | exact Or.inr ⟨rfl, rfl⟩ | refine And.intro ?_ ?_)); done)); conv => whnf) | (refine st_call q1 ?_ rfl rfl ?_; (focus ((repeat' (first | exact trivial | exact rfl | exact Or.inl rfl | exact Or.inr ⟨rfl, rfl⟩ | refine And.intro ?_ ?_)); done)); conv => whnf) | (refine st_call q2 ?_ rfl rfl ?_; (focus ((repeat' (first | exact trivial | exact rfl | exact Or.inl rfl | exact Or.inr ⟨rfl, rfl⟩ | refine And.intro ?_ ?_)); done)); conv => whnf) | (refine st_call q3 ?_ rfl rfl ?_; (focus ((repeat' (first | exact trivial | exact rfl | exact Or.inl rfl | exact Or.inr ⟨rfl, rfl⟩ | refine And.intro ?_ ?_)); done)); conv => whnf) | (refine st_call q4 ?_ rfl rfl ?_; (focus ((repeat' (first | exact trivial | exact rfl | exact Or.inl rfl | exact Or.inr ⟨rfl, rfl⟩ | refine And.intro ?_ ?_)); done)); conv => whnf) | (refine st_call q5 ?_ rfl rfl ?_; (focus ((repeat' (first | exact trivial | exact rfl | exact Or.inl rfl | exact Or.inr ⟨rfl, rfl⟩ | refine And.intro ?_ ?_)); done)); conv => whnf) | (refine st_call q6 ?_ rfl rfl ?_; (focus ((repeat' (first | exact trivial | exact rfl | exact Or.inl rfl | exact Or.inr ⟨rfl, rfl⟩ | refine And.intro ?_ ?_)); done)); conv => whnf) | (refine st_call q8 ?_ rfl rfl ?_; (focus ((repeat' (first | exact trivial | exact rfl | exact Or.inl rfl | exact Or.inr ⟨rfl, rfl⟩ | refine And.intro ?_ ?_)); done)); conv => whnf) | (refine st_call q9 ?_ rfl rfl ?_; (focus ((repeat' (first | exact trivial | exact rfl | exact Or.inl rfl | exact Or.inr ⟨rfl, rfl⟩ | refine And.intro ?_ ?_)); done)); conv => whnf) | (refine cmp_true rfl ?_; conv => whnf) | (refine ⟨rfl, cmp_true rfl ?_⟩; conv => whnf) | (refine cmp_false ?_ ?_; (focus decide); conv => whnf) | (refine ⟨rfl, cmp_false ?_ ?_⟩; (focus decide); conv => whnf) | (refine ⟨rfl, cmp_true ?_ ?_⟩; (focus decide); conv => whnf) | (refine ⟨rfl, cmp_false (fun h => h rfl) ?_⟩; conv => whnf)))
    exact ⟨.inl rfl, rfl⟩
  | some d =>
    obtain ⟨w1, w2, w3, w4⟩ := q7 d hd
    rw [hr] at q1 q2 q5
    rw [(parsed_of hd).1, (parsed_of hd).2.1] at q3
    rw [(parsed_of hd).2.2, (parsed_of hd).2.1] at q4
    refine fn_prog tabOk mixed Tryz.f4 Tryz.func4 (by kernel_rfl) (by kernel_rfl) ?_
    conv => whnf
    (repeat (first | (refine st_call sh ?_ rfl rfl ?_; (focus ((repeat' (first | exact trivial | exact rfl | exact Or.inl rfl | exact Or.inr ⟨rfl, rfl⟩ | refine And.intro ?_ ?_)); done)); conv => whnf) | (refine st_call c1 ?_ rfl rfl ?_; (focus ((repeat' (first | exact trivial | exact rfl | exact Or.inl rfl | exact Or.inr ⟨rfl, rfl⟩ | refine And.intro ?_ ?_)); done)); conv => whnf) | (refine st_call c2 ?_ rfl rfl ?_; (focus ((repeat' (first | exact trivial | exact rfl | exact Or.inl rfl | exact Or.inr ⟨rfl, rfl⟩ | refine And.intro ?_ ?_)); done)); conv => whnf) | (refine st_call q1 ?_ rfl rfl ?_; (focus ((repeat' (first | exact trivial | exact rfl | exact Or.inl rfl | exact Or.inr ⟨rfl, rfl⟩ | refine And.intro ?_ ?_)); done)); conv => whnf) | (refine st_call q2 ?_ rfl rfl ?_; (focus ((repeat' (first | exact trivial | exact rfl | exact Or.inl rfl | exact Or.inr ⟨rfl, rfl⟩ | refine And.intro ?_ ?_)); done)); conv => whnf) | (refine st_call q3 ?_ rfl rfl ?_; (focus ((repeat' (first | exact trivial | exact rfl | exact Or.inl rfl | exact Or.inr ⟨rfl, rfl⟩ | refine And.intro ?_ ?_)); done)); conv => whnf) | (refine st_call q4 ?_ rfl rfl ?_; (focus ((repeat' (first | exact trivial | exact rfl | exact Or.inl rfl | exact Or.inr ⟨rfl, rfl⟩ | refine And.intro ?_ ?_)); done)); conv => whnf) | (refine st_call q5 ?_ rfl rfl ?_; (focus ((repeat' (first | exact trivial | exact rfl | exact Or.inl rfl | exact Or.inr ⟨rfl, rfl⟩ | refine And.intro ?_ ?_)); done)); conv => whnf) | (refine st_call q6 ?_ rfl rfl ?_; (focus ((repeat' (first | exact trivial | exact rfl | exact Or.inl rfl | exact Or.inr ⟨rfl, rfl⟩ | refine And.intro ?_ ?_)); done)); conv => whnf) | (refine st_call w1 ?_ rfl rfl ?_; (focus ((repeat' (first | exact trivial | exact rfl | exact Or.inl rfl | exact Or.inr ⟨rfl, rfl⟩ | refine And.intro ?_ ?_)); done)); conv => whnf) | (refine st_call w2 ?_ rfl rfl ?_; (focus ((repeat' (first | exact trivial | exact rfl | exact Or.inl rfl | exact Or.inr ⟨rfl, rfl⟩ | refine And.intro ?_ ?_)); done)); conv => whnf) | (refine st_call w3 ?_ rfl rfl ?_; (focus ((repeat' (first | exact trivial | exact rfl | exact Or.inl rfl | exact Or.inr ⟨rfl, rfl⟩ | refine And.intro ?_ ?_)); done)); conv => whnf) | (refine st_call w4 ?_ rfl rfl ?_; (focus ((repeat' (first | exact trivial | exact rfl | exact Or.inl rfl | exact Or.inr ⟨rfl, rfl⟩ | refine And.intro ?_ ?_)); done)); conv => whnf) | (refine cmp_true rfl ?_; conv => whnf) | (refine ⟨rfl, cmp_true rfl ?_⟩; conv => whnf) | (refine cmp_false ?_ ?_; (focus decide); conv => whnf) | (refine ⟨rfl, cmp_false ?_ ?_⟩; (focus decide); conv => whnf) | (refine ⟨rfl, cmp_true ?_ ?_⟩; (focus decide); conv => whnf) | (refine ⟨rfl, cmp_false (fun h => h rfl) ?_⟩; conv => whnf)))
    exact ⟨.inl rfl, rfl⟩
end Go.Proofs.YtjmpkbmgcbalkaaGreatDoor.Dn
/- latinerref07, walked: names' texts, and names of texts. Conditions: texts of at most 10^6 bytes. -/
namespace Go.Proofs.YtjmpkbmgcbalkaaGreatDoor.Rf
open Go.RowKit Dn
set_option linter.unusedVariables false
variable {X : En}
theorem joinC_snoc (c : UInt8) (x : List UInt8) : ∀ l : List (List UInt8), joinC c (l ++ [x]) = (if l.length = 0 then [] else joinC c l ++ [c]) ++ x
  | [] => rfl
  | [y] => by simp [joinC]
  | y :: z :: t => by
    have ih := joinC_snoc c x (z :: t)
    rw [show y :: z :: t ++ [x] = y :: (z :: t ++ [x]) from rfl]
    show y ++ c :: joinC c (z :: t ++ [x]) = _
    rw [ih]
    simp [joinC]
set_option maxHeartbeats 4000000 in
theorem print7_fn (d : Name) (hd : Small d) : Fn Tryz.prog X 14 [.v (vName d)] (.tup [.v (.str (printedB d)), .v (.int .i64 (codeN (rightB d)))]) := by
  have hdl := hd.len
  refine fn_prog tabOk mixed Tryz.f14 Tryz.func14 (by kernel_rfl) (by kernel_rfl) ?_
  conv => whnf
  refine st_callB (right7_fn d (Mid.of_small hd)) ⟨.inl rfl, trivial⟩ rfl (fun hr => ?_) (fun hr => ?_)
  · unfold printedB codeN
    rw [if_pos hr, if_pos hr]
    conv => whnf
    have hpre : ∀ i, (joinC 44 ((d.take i).map rdnL)).length ≤ 500000000 := fun i =>
      nameL_len (d := d.take i) ⟨by simp; omega, fun r hr => hd.row r (List.mem_of_mem_take hr)⟩
    refine ⟨Nat, fun i => ⟨58, [(0, .v (vName d)), (4, .v (.str (tx (joinC 44 ((d.take i).map rdnL))))), (5, .v (.int .i64 (i : Nat)))], [], []⟩, fun i => i ≤ d.length, fun i => d.length - i, ⟨0, [], by omega, ?_⟩, fun i hi => ?_⟩
    · exact ⟨rfl, rfl, ⟨.inl rfl, .inl rfl, .inl rfl, trivial⟩, trivial, trivial⟩
    conv => whnf
    refine ⟨rfl, cmp_split (fun h => ?_) (fun h => ?_)⟩
    · rw [List.length_map] at h
      have hil : i < d.length := by omega
      have hrow := hd.row d[i] (List.getElem_mem hil)
      obtain ⟨O, hO⟩ : ∃ O, O = (if (d.take i).length = 0 then [] else joinC 44 ((d.take i).map rdnL) ++ [44]) := ⟨_, rfl⟩
      have hOl : O.length ≤ 500000001 := by
        rw [hO]; split
        · simp
        · have := hpre i; rw [List.length_append, List.length_singleton]; omega
      have hnext : joinC 44 ((d.take (i + 1)).map rdnL) = O ++ rdnL d[i] := by
        rw [List.take_succ_eq_append_getElem hil, List.map_append, List.map_singleton, joinC_snoc, hO, List.length_map]
      have hin : ∀ k, (joinC 43 ((d[i].take k).map avaL)).length ≤ 400200 := fun k =>
        rdnL_len (r := d[i].take k) ⟨by simp; omega, fun a ha => hrow.2 a (List.mem_of_mem_take ha)⟩
      have hti : (d.take i).length = i := by simp; omega
      conv => whnf
      refine ⟨rfl, cmp_split (fun h1 => ?_) (fun h1 => ?_)⟩
      rotate_left
      focus
        conv => whnf
        have eO : joinC 44 ((d.take i).map rdnL) = O := by
          have : i = 0 := by omega
          subst this
          rw [hO]; rfl
        rw [eO]
      rotate_left
      focus
        conv => whnf
        refine st_catx (joinC 44 ((d.take i).map rdnL)) [44] (by have := hpre i; rw [List.length_singleton]; omega) rfl rfl ?_
        have eO : joinC 44 ((d.take i).map rdnL) ++ [44] = O := by rw [hO, if_neg (by omega)]
        rw [eO]
        conv => whnf
      all_goals
        refine ⟨Nat, fun k => ⟨58, [(0, .v (vName d)), (4, .v (.str (tx (O ++ joinC 43 ((d[i].take k).map avaL))))), (5, .v (.int .i64 (i : Nat))), (6, .v (.int .i64 (k : Nat)))], [], []⟩, fun k => k ≤ d[i].length, fun k => d[i].length - k, ⟨0, [], by omega, ?_⟩, fun k hk => ?_⟩
        · exact ⟨rfl, rfl, ⟨.inl rfl, .inl (congrArg V.str (by simp [joinC])), .inl rfl, .inl rfl, trivial⟩, trivial, trivial⟩
        conv => whnf
        refine st_idx hil rfl ?_
        conv => whnf
        refine ⟨rfl, cmp_split (fun h3 => ?_) (fun h3 => ?_)⟩
        · rw [List.length_map] at h3
          have hkl : k < d[i].length := by omega
          have hsz := hrow.2 d[i][k] (List.getElem_mem hkl)
          have htk : (d[i].take k).length = k := by simp; omega
          obtain ⟨Q, hQ⟩ : ∃ Q, Q = O ++ (if (d[i].take k).length = 0 then [] else joinC 43 ((d[i].take k).map avaL) ++ [43]) := ⟨_, rfl⟩
          have hQl : Q.length ≤ 500500000 := by
            rw [hQ, List.length_append]; split
            · simp; omega
            · have := hin k; rw [List.length_append, List.length_singleton]; omega
          have hnext2 : O ++ joinC 43 ((d[i].take (k + 1)).map avaL) = Q ++ avaL d[i][k] := by
            rw [List.take_succ_eq_append_getElem hkl, List.map_append, List.map_singleton, joinC_snoc, hQ, List.length_map, List.append_assoc]
          have hol := Esc.outF_len (Esc.nameR d[i][k].2.size) d[i][k].2.data.toList 0
          have hs1 : d[i][k].1.data.toList.length = d[i][k].1.size := by simp
          have hs2 : d[i][k].2.data.toList.length = d[i][k].2.size := by simp
          conv => whnf
          refine ⟨rfl, cmp_split (fun h4 => ?_) (fun h4 => ?_)⟩
          rotate_left
          focus
            conv => whnf
            have eQ : O ++ joinC 43 ((d[i].take k).map avaL) = Q := by
              have : k = 0 := by omega
              subst this
              rw [hQ]; rfl
            rw [eQ]
          rotate_left
          focus
            conv => whnf
            refine st_catx (O ++ joinC 43 ((d[i].take k).map avaL)) [43] (by have := hin k; rw [List.length_append, List.length_singleton]; omega) rfl rfl ?_
            have eQ : O ++ joinC 43 ((d[i].take k).map avaL) ++ [43] = Q := by rw [hQ, if_neg (by omega), List.append_assoc]
            rw [eQ]
            conv => whnf
          all_goals
            refine ⟨none, by kernel_rfl, ?_⟩; conv => whnf
            refine st_idx hil rfl ?_
            conv => whnf
            refine st_idx hkl rfl ?_
            conv => whnf
            refine st_catx Q d[i][k].1.data.toList (by omega) rfl rfl ?_
            conv => whnf
            refine st_catx (Q ++ d[i][k].1.data.toList) [61] (by rw [List.length_append, List.length_singleton]; omega) rfl rfl ?_
            conv => whnf
            refine st_idx hil rfl ?_
            conv => whnf
            refine st_idx hkl rfl ?_
            conv => whnf
            (refine st_call (name_fn d[i][k].2 (by omega)) ?_ rfl rfl ?_; (focus ((repeat' (first | exact trivial | exact rfl | exact Or.inl rfl | exact Or.inr ⟨rfl, rfl⟩ | refine And.intro ?_ ?_)); done)); conv => whnf)
            refine st_catx (Q ++ d[i][k].1.data.toList ++ [61]) (Esc.outF (Esc.nameR d[i][k].2.size) 0 d[i][k].2.data.toList) (by rw [List.length_append, List.length_append, List.length_singleton]; omega) rfl rfl ?_
            conv => whnf
            refine st_add k 1 (by omega) ?_
            conv => whnf
            refine ⟨k + 1, [], hkl, by dsimp only; omega, ?_⟩
            exact ⟨rfl, rfl, ⟨.inl rfl, .inl (congrArg V.str (by rw [hnext2]; unfold avaL; simp)), .inl rfl, .inl rfl, trivial⟩, trivial, trivial⟩
        · rw [List.length_map] at h3
          conv => whnf
          refine st_add i 1 (by omega) ?_
          conv => whnf
          refine ⟨i + 1, [], hil, by dsimp only; omega, ?_⟩
          exact ⟨rfl, rfl, ⟨.inl rfl, .inl (congrArg V.str (by rw [hnext, List.take_of_length_le (by omega)]; rfl)), .inl rfl, trivial⟩, trivial, trivial⟩
    · rw [List.length_map] at h
      conv => whnf
      exact ⟨⟨.inl (congrArg V.str (by rw [List.take_of_length_le (by omega)]; rfl)), .inl rfl, trivial⟩, rfl⟩
  · unfold printedB codeN
    rw [hr]
    conv => whnf
    exact ⟨⟨.inl rfl, .inl rfl, trivial⟩, rfl⟩
theorem pieces_mid (l : List UInt8) (hl : l.length ≤ 1000000) (y : List UInt8) (hy : y ∈ piecesL 44 l) : y.length ≤ 1000000 := by have := (pieces_le 44 l).1 y hy; omega
theorem readR_len (nm : Bool) (s : ByteArray) : ∀ (f k : Nat) (l r : List UInt8), Esc.readR nm s f k l = some r → r.length ≤ l.length + f
  | 0, _, l, r, h => by rw [Esc.readR] at h; cases h; simp
  | f + 1, k, l, r, h => by
    rw [Esc.readR] at h
    split at h
    · split at h
      · split at h
        · have := readR_len nm s f _ _ r h
          simp at this; omega
        · cases h
      · split at h
        · cases h
        · have := readR_len nm s f _ _ r h
          simp at this; omega
    · cases h; omega
theorem readL_len {nm : Bool} {s : ByteArray} {r : List UInt8} (h : Esc.readL nm s = some r) : r.length ≤ s.size := by
  unfold Esc.readL at h
  split at h
  · cases h
  · have := readR_len nm s _ _ _ _ h
    simpa using this
theorem part_mid {q : List UInt8} {a : Ava} (h : partA (tx q) = some a) : a.1.size ≤ q.length ∧ a.2.size ≤ q.length := by
  unfold partA at h
  rw [tx_list] at h
  have hc := cut_le q [61]
  have hb : (Lib.cut q [61]).1.length ≤ q.length := by
    unfold Lib.cut
    split
    · simp; omega
    · simp
  split at h
  · obtain ⟨v, hv, rfl⟩ := Option.map_eq_some_iff.1 h
    have := readL_len hv
    rw [show (⟨(Lib.cut q [61]).2.1.toArray⟩ : ByteArray).size = (Lib.cut q [61]).2.1.length from rfl] at this
    exact ⟨hb, by show v.length ≤ _; omega⟩
  · cases h
set_option maxHeartbeats 4000000 in
theorem parse7_fn (s : ByteArray) (hs : s.size ≤ 900000) : Fn Tryz.prog X 16 [.v (.str s)] (.tup [.v (vName (parsedD s)), .v (.int .i64 (codeN (parsedOk s)))]) := by
  have hl : s.data.toList.length = s.size := by simp
  refine fn_prog tabOk mixed Tryz.f16 Tryz.func16 (by kernel_rfl) (by kernel_rfl) ?_
  conv => whnf
  refine cmp_split (fun h0 => ?_) (fun h0 => ?_)
  · subst h0
    conv => whnf
    exact ⟨⟨.inr ⟨rfl, rfl⟩, .inl rfl, trivial⟩, rfl⟩
  have hne : s.data.toList ≠ [] := fun e => h0 (ByteArray.ext (Array.toList_inj.1 e))
  have hpl := pieces_le 44 s.data.toList
  have bad : (∃ q ∈ piecesL 44 s.data.toList, rdnOf q = none) → parsedD s = [] ∧ parsedOk s = false := fun ⟨q, hq, hn⟩ => by
    have : parsedL s.data.toList = none := by
      unfold parsedL nameOf
      rw [if_neg hne, allM_none hq hn]; rfl
    unfold parsedD parsedOk
    rw [this]; exact ⟨rfl, rfl⟩
  conv => whnf
  (refine st_call (pieces_fn s 44 (by omega) (by decide)) ?_ rfl rfl ?_; (focus ((repeat' (first | exact trivial | exact rfl | exact Or.inl rfl | exact Or.inr ⟨rfl, rfl⟩ | refine And.intro ?_ ?_)); done)); conv => whnf)
  generalize hP : piecesL 44 s.data.toList = P at *
  refine ⟨Nat, fun i => ⟨58, [(4, .own 4 42 ((P.take i).map fun q => cRdn (rdnD q))), (5, .v (.sl (pcs P))), (6, .v (.int .i64 (i : Nat)))], [], [(4, some 42)]⟩, fun i => i ≤ P.length ∧ ∀ q ∈ P.take i, (rdnOf q).isSome = true, fun i => P.length - i, ⟨0, [(4, none)], ⟨by omega, by simp⟩, ?_⟩, fun i ⟨hi, hok⟩ => ?_⟩
  · exact ⟨rfl, rfl, ⟨⟨rfl, rfl, rfl⟩, .inl rfl, .inl rfl, trivial⟩, trivial, ⟨trivial, trivial⟩⟩
  conv => whnf
  refine ⟨rfl, cmp_split (fun h => ?_) (fun h => ?_)⟩
  · rw [show (pcs P).length = P.length by simp [pcs]] at h
    have hil : i < P.length := by omega
    have hqm := List.getElem_mem hil
    have hql := hpl.1 _ hqm
    obtain ⟨q, hq⟩ : ∃ q, q = P[i] := ⟨_, rfl⟩
    conv => whnf
    refine st_idx (enc := fun y => [V.str (tx y)]) hil rfl ?_
    rw [← hq] at hqm hql ⊢
    conv => whnf
    (refine st_call (pieces_fn (tx q) 43 (by rw [tx_size]; omega) (by decide)) ?_ rfl rfl ?_; (focus ((repeat' (first | exact trivial | exact rfl | exact Or.inl rfl | exact Or.inr ⟨rfl, rfl⟩ | refine And.intro ?_ ?_)); done)); conv => whnf)
    rw [tx_list]
    have hml := pieces_le 43 q
    have hRb : ∀ x ∈ piecesL 43 q, partA (tx x) = none → rdnOf q = none := fun x hx h => rdnOf_bad hx h
    have hRo : (∀ x ∈ piecesL 43 q, (partA (tx x)).isSome = true) → rdnOf q = some ((piecesL 43 q).map avaD) := fun h => rdnOf_ok h
    generalize hM : piecesL 43 q = M at *
    conv => whnf
    refine ⟨Nat, fun k => ⟨58, [(4, .own 4 42 ((P.take i).map fun q => cRdn (rdnD q))), (5, .v (.sl (pcs P))), (6, .v (.int .i64 (i : Nat))), (7, .v (.sl (pcs M))), (8, .ptr 8 0), (9, .v (.int .i64 (k : Nat)))], [(8, [.own 8 39 ((M.take k).map fun x => cAva (avaD x))])], [(4, some 42), (8, some 39)]⟩, fun k => k ≤ M.length ∧ ∀ x ∈ M.take k, (partA (tx x)).isSome = true, fun k => M.length - k, ⟨0, [(4, some 4), (8, none)], ⟨by omega, by simp⟩, ?_⟩, fun k ⟨hk, hkok⟩ => ?_⟩
    · exact ⟨rfl, rfl, ⟨⟨rfl, rfl, rfl⟩, .inl rfl, .inl rfl, .inl rfl, ⟨rfl, rfl⟩, .inl rfl, trivial⟩, ⟨⟨⟨rfl, by simp, rfl⟩, trivial⟩, trivial⟩, ⟨rfl, trivial, trivial⟩⟩
    conv => whnf
    refine ⟨rfl, cmp_split (fun h3 => ?_) (fun h3 => ?_)⟩
    · rw [show (pcs M).length = M.length by simp [pcs]] at h3
      have hkl : k < M.length := by omega
      have hxm := List.getElem_mem hkl
      have hxl := hml.1 _ hxm
      obtain ⟨x, hx⟩ : ∃ x, x = M[k] := ⟨_, rfl⟩
      conv => whnf
      refine st_idx (enc := fun y => [V.str (tx y)]) hkl rfl ?_
      rw [← hx] at hxm hxl ⊢
      conv => whnf
      obtain ⟨a, hfn, hab⟩ := ava_fn (X := X) (tx x) (by rw [tx_size]; omega)
      cases hpx : partA (tx x) with
      | none =>
        rw [hpx] at hfn
        obtain ⟨b1, b2⟩ := bad ⟨q, hqm, hRb x hxm hpx⟩
        rw [b1, b2]
        (refine st_call hfn ?_ rfl rfl ?_; (focus ((repeat' (first | exact trivial | exact rfl | exact Or.inl rfl | exact Or.inr ⟨rfl, rfl⟩ | refine And.intro ?_ ?_)); done)); conv => whnf)
        exact ⟨⟨.inr ⟨rfl, rfl⟩, .inl rfl, trivial⟩, rfl⟩
      | some b =>
        obtain rfl := hab b hpx
        rw [hpx] at hfn
        have hav : avaD x = a := by unfold avaD; rw [show partA (mkB x) = some a from hpx]; rfl
        (refine st_call hfn ?_ rfl rfl ?_; (focus ((repeat' (first | exact trivial | exact rfl | exact Or.inl rfl | exact Or.inr ⟨rfl, rfl⟩ | refine And.intro ?_ ?_)); done)); conv => whnf)
        refine st_app (by simp; omega) (by simp [V.cells]) (zs := (M.take (k + 1)).map fun x => cAva (avaD x)) (by rw [List.take_succ_eq_append_getElem hkl, List.map_append, ← hx, List.map_singleton, hav]; rfl) ?_
        conv => whnf
        refine st_add k 1 (by omega) ?_
        conv => whnf
        refine ⟨k + 1, [(4, some 4), (8, some 48)], ⟨hkl, fun y hy => ?_⟩, by dsimp only; omega, ?_⟩
        · rw [List.take_succ_eq_append_getElem hkl, List.mem_append, List.mem_singleton, ← hx] at hy
          rcases hy with hy | rfl
          · exact hkok y hy
          · rw [hpx]; rfl
        · exact ⟨rfl, rfl, ⟨⟨rfl, rfl, rfl⟩, .inl rfl, .inl rfl, .inl rfl, ⟨rfl, rfl⟩, .inl rfl, trivial⟩, ⟨⟨⟨rfl, rfl, rfl⟩, trivial⟩, trivial⟩, ⟨rfl, rfl, trivial⟩⟩
    · rw [show (pcs M).length = M.length by simp [pcs]] at h3
      rw [List.take_of_length_le (by omega)] at hkok
      have hro := hRo hkok
      have hrd : rdnD q = M.map avaD := by unfold rdnD; rw [hro]; rfl
      conv => whnf
      refine st_app (by simp; omega) (by simp [V.cells]) (zs := (P.take (i + 1)).map fun q => cRdn (rdnD q)) (by rw [List.take_succ_eq_append_getElem hil, List.map_append, ← hq, List.map_singleton, hrd, List.take_of_length_le (l := M) (by omega)]; simp [V.cells, cRdn]) ?_
      conv => whnf
      refine st_add i 1 (by omega) ?_
      conv => whnf
      refine ⟨i + 1, [(4, some 53)], ⟨hil, fun y hy => ?_⟩, by dsimp only; omega, ?_⟩
      · rw [List.take_succ_eq_append_getElem hil, List.mem_append, List.mem_singleton, ← hq] at hy
        rcases hy with hy | rfl
        · exact hok y hy
        · rw [hro]; rfl
      · exact ⟨rfl, rfl, ⟨⟨rfl, rfl, rfl⟩, .inl rfl, .inl rfl, trivial⟩, trivial, ⟨rfl, trivial⟩⟩
  · rw [show (pcs P).length = P.length by simp [pcs]] at h
    rw [List.take_of_length_le (by omega)] at hok
    have hgood : nameOf s.data.toList = some (P.map rdnD) := by
      have := good_at (s := s) hne (by rw [hP]; exact hok)
      rw [hP] at this; exact this
    have hmid : Mid (P.map rdnD) := by
      refine ⟨by rw [List.length_map]; omega, fun r hr => ?_⟩
      obtain ⟨q, hq, rfl⟩ := List.mem_map.1 hr
      have hql := hpl.1 q hq
      obtain ⟨r, hr⟩ := Option.isSome_iff_exists.1 (hok q hq)
      have hall : ∀ x ∈ piecesL 43 q, (partA (mkB x)).isSome = true := allM_isSome hr
      have hrd : rdnD q = (piecesL 43 q).map avaD := by unfold rdnD; rw [rdnOf_ok hall]; rfl
      have hml := pieces_le 43 q
      rw [hrd]
      refine ⟨by rw [List.length_map]; omega, fun a ha => ?_⟩
      obtain ⟨x, hx, rfl⟩ := List.mem_map.1 ha
      obtain ⟨a, ha⟩ := Option.isSome_iff_exists.1 (hall x hx)
      have hav : avaD x = a := by unfold avaD; rw [ha]; rfl
      have := part_mid (q := x) ha
      have hxl := hml.1 x hx
      rw [hav]; omega
    conv => whnf
    rw [List.take_of_length_le (by omega)]
    refine st_callB (right7_fn (P.map rdnD) hmid) ⟨?_, trivial⟩ rfl (fun hr => ?_) (fun hr => ?_)
    · exact (show V.sl _ = V.sl _ by rw [List.map_map]; rfl)
    · have hp : parsedL s.data.toList = some (P.map rdnD) := by
        unfold parsedL
        rw [if_neg hne, hgood]
        simp [hr]
      have h1 : parsedD s = P.map rdnD := by unfold parsedD; rw [hp]; rfl
      have h2 : parsedOk s = true := by unfold parsedOk; rw [hp]; rfl
      rw [h1, h2]
      conv => whnf
      exact ⟨⟨(show V.sl _ = V.sl _ by rw [List.map_map]; rfl), .inl rfl, trivial⟩, rfl⟩
    · have hp : parsedL s.data.toList = none := by
        unfold parsedL
        rw [if_neg hne, hgood]
        simp [hr]
      have h1 : parsedD s = [] := by unfold parsedD; rw [hp]; rfl
      have h2 : parsedOk s = false := by unfold parsedOk; rw [hp]; rfl
      rw [h1, h2]
      conv => whnf
      exact ⟨⟨.inr ⟨rfl, rfl⟩, .inl rfl, trivial⟩, rfl⟩
theorem parsed_small {s : ByteArray} (h : parsedOk s = true) : rightB (parsedD s) = true := by
  unfold parsedOk at h
  obtain ⟨d, hd⟩ := Option.isSome_iff_exists.1 h
  rw [(parsed_of hd).1]
  exact parsed_right _ _ hd
theorem canon7_fn (s : ByteArray) (hs : s.size ≤ 900000) : Fn Tryz.prog X 18 [.v (.str s)] (.tup [.v (.str (canonB s)), .v (.int .i64 (codeN (parsedOk s)))]) := by
  refine fn_prog tabOk mixed Tryz.f18 Tryz.func18 (by kernel_rfl) (by kernel_rfl) ?_
  conv => whnf
  have hp := parse7_fn (X := X) s hs
  unfold canonB
  cases hk : parsedOk s
  · rw [hk] at hp
    (refine st_call hp ?_ rfl rfl ?_; (focus ((repeat' (first | exact trivial | exact rfl | exact Or.inl rfl | exact Or.inr ⟨rfl, rfl⟩ | refine And.intro ?_ ?_)); done)); conv => whnf)
    refine ⟨rfl, cmp_true (by decide) ?_⟩
    conv => whnf
    exact ⟨⟨.inl rfl, .inl rfl, trivial⟩, rfl⟩
  · have hr := parsed_small hk
    have hq := print7_fn (X := X) (parsedD s) (right_small hr)
    unfold printedB at hq
    rw [hr] at hq
    rw [hk] at hp
    (refine st_call hp ?_ rfl rfl ?_; (focus ((repeat' (first | exact trivial | exact rfl | exact Or.inl rfl | exact Or.inr ⟨rfl, rfl⟩ | refine And.intro ?_ ?_)); done)); conv => whnf)
    refine ⟨rfl, cmp_false (by decide) ?_⟩
    conv => whnf
    (refine st_call hq ?_ rfl rfl ?_; (focus ((repeat' (first | exact trivial | exact rfl | exact Or.inl rfl | exact Or.inr ⟨rfl, rfl⟩ | refine And.intro ?_ ?_)); done)); conv => whnf)
    exact ⟨⟨.inl rfl, .inl rfl, trivial⟩, rfl⟩
theorem mid_parsed (s : ByteArray) : Mid (parsedD s) := by
  cases hk : parsedOk s
  · have : parsedL s.data.toList = none := by
      unfold parsedOk at hk
      cases h : parsedL s.data.toList
      · rfl
      · rw [h] at hk; cases hk
    rw [(parsed_no this).1]
    exact ⟨by simp, fun r hr => by cases hr⟩
  · exact Mid.of_small (right_small (parsed_small hk))
set_option maxRecDepth 100000 in
set_option maxHeartbeats 4000000 in
theorem tells_law (p : Nat → Addr) (x0 y0 : Name) (s0 : ByteArray) : Fn Tryz.prog (envX p) 3 [.v (vName x0), .v (vName y0), .v (.str s0)] (.v (.bool true)) := by
  have c1 := cut_fn (envX p) x0
  have c2 := cut_fn (envX p) y0
  have c3 := cutS_fn (envX p) s0
  have sx := cut_small x0
  have sy := cut_small y0
  have ss := cutS_size s0
  generalize cutName x0 = x at *
  generalize cutName y0 = y at *
  generalize cutS s0 = s at *
  have hyl := sy.len
  have sh := shown_fn p
  have q1 := print_fn p x
  have r1 := print7_fn (X := envX p) x sx
  have q2 := parse_fn p s (by omega)
  have r2 := parse7_fn (X := envX p) s (by omega)
  have q3 := canon_fn p s (by omega)
  have r3 := canon7_fn (X := envX p) s (by omega)
  have q4 := Dn.right_fn p x
  have r4 := right7_fn (X := envX p) x (Mid.of_small sx)
  have q5 := same_fn p x y sx.ok
  have r5 := same7_fn (X := envX p) x y (Mid.of_small sx)
  have q6 := same_fn p x x sx.ok
  rw [decide_eq_true rfl] at q6
  have q7 := under_fn p x y sx.ok (by omega)
  have r7 := under7_fn (X := envX p) x y (Mid.of_small sx) (Mid.of_small sy)
  have r6 := same7_fn (X := envX p) (parsedD s) (parsedD s) (mid_parsed s)
  rw [decide_eq_true rfl] at r6
  have q8 := type_fn p s
  have r8 := isType_fn (X := envX p) s (by omega)
  refine fn_prog tabOk mixed Tryz.f3 Tryz.func3 (by kernel_rfl) (by kernel_rfl) ?_
  conv => whnf
  (repeat (first | (refine st_call sh ?_ rfl rfl ?_; (focus ((repeat' (first | exact trivial | exact rfl | exact Or.inl rfl | exact Or.inr ⟨rfl, rfl⟩ | refine And.intro ?_ ?_)); done)); conv => whnf) | (refine st_call c1 ?_ rfl rfl ?_; (focus ((repeat' (first | exact trivial | exact rfl | exact Or.inl rfl | exact Or.inr ⟨rfl, rfl⟩ | refine And.intro ?_ ?_)); done)); conv => whnf) | (refine st_call c2 ?_ rfl rfl ?_; (focus ((repeat' (first | exact trivial | exact rfl | exact Or.inl rfl | exact Or.inr ⟨rfl, rfl⟩ | refine And.intro ?_ ?_)); done)); conv => whnf) | (refine st_call c3 ?_ rfl rfl ?_; (focus ((repeat' (first | exact trivial | exact rfl | exact Or.inl rfl | exact Or.inr ⟨rfl, rfl⟩ | refine And.intro ?_ ?_)); done)); conv => whnf) | (refine st_call q1 ?_ rfl rfl ?_; (focus ((repeat' (first | exact trivial | exact rfl | exact Or.inl rfl | exact Or.inr ⟨rfl, rfl⟩ | refine And.intro ?_ ?_)); done)); conv => whnf) | (refine st_call r1 ?_ rfl rfl ?_; (focus ((repeat' (first | exact trivial | exact rfl | exact Or.inl rfl | exact Or.inr ⟨rfl, rfl⟩ | refine And.intro ?_ ?_)); done)); conv => whnf) | (refine st_call q2 ?_ rfl rfl ?_; (focus ((repeat' (first | exact trivial | exact rfl | exact Or.inl rfl | exact Or.inr ⟨rfl, rfl⟩ | refine And.intro ?_ ?_)); done)); conv => whnf) | (refine st_call r2 ?_ rfl rfl ?_; (focus ((repeat' (first | exact trivial | exact rfl | exact Or.inl rfl | exact Or.inr ⟨rfl, rfl⟩ | refine And.intro ?_ ?_)); done)); conv => whnf) | (refine st_call q3 ?_ rfl rfl ?_; (focus ((repeat' (first | exact trivial | exact rfl | exact Or.inl rfl | exact Or.inr ⟨rfl, rfl⟩ | refine And.intro ?_ ?_)); done)); conv => whnf) | (refine st_call r3 ?_ rfl rfl ?_; (focus ((repeat' (first | exact trivial | exact rfl | exact Or.inl rfl | exact Or.inr ⟨rfl, rfl⟩ | refine And.intro ?_ ?_)); done)); conv => whnf) | (refine st_call q4 ?_ rfl rfl ?_; (focus ((repeat' (first | exact trivial | exact rfl | exact Or.inl rfl | exact Or.inr ⟨rfl, rfl⟩ | refine And.intro ?_ ?_)); done)); conv => whnf) | (refine st_call r4 ?_ rfl rfl ?_; (focus ((repeat' (first | exact trivial | exact rfl | exact Or.inl rfl | exact Or.inr ⟨rfl, rfl⟩ | refine And.intro ?_ ?_)); done)); conv => whnf) | (refine st_call q5 ?_ rfl rfl ?_; (focus ((repeat' (first | exact trivial | exact rfl | exact Or.inl rfl | exact Or.inr ⟨rfl, rfl⟩ | refine And.intro ?_ ?_)); done)); conv => whnf) | (refine st_call r5 ?_ rfl rfl ?_; (focus ((repeat' (first | exact trivial | exact rfl | exact Or.inl rfl | exact Or.inr ⟨rfl, rfl⟩ | refine And.intro ?_ ?_)); done)); conv => whnf) | (refine st_call q6 ?_ rfl rfl ?_; (focus ((repeat' (first | exact trivial | exact rfl | exact Or.inl rfl | exact Or.inr ⟨rfl, rfl⟩ | refine And.intro ?_ ?_)); done)); conv => whnf) | (refine st_call q7 ?_ rfl rfl ?_; (focus ((repeat' (first | exact trivial | exact rfl | exact Or.inl rfl | exact Or.inr ⟨rfl, rfl⟩ | refine And.intro ?_ ?_)); done)); conv => whnf) | (refine st_call r7 ?_ rfl rfl ?_; (focus ((repeat' (first | exact trivial | exact rfl | exact Or.inl rfl | exact Or.inr ⟨rfl, rfl⟩ | refine And.intro ?_ ?_)); done)); conv => whnf) | (refine st_call r6 ?_ rfl rfl ?_; (focus ((repeat' (first | exact trivial | exact rfl | exact Or.inl rfl | exact Or.inr ⟨rfl, rfl⟩ | refine And.intro ?_ ?_)); done)); conv => whnf) | (refine st_call q8 ?_ rfl rfl ?_; (focus ((repeat' (first | exact trivial | exact rfl | exact Or.inl rfl | exact Or.inr ⟨rfl, rfl⟩ | refine And.intro ?_ ?_)); done)); conv => whnf) | (refine st_call r8 ?_ rfl rfl ?_; (focus ((repeat' (first | exact trivial | exact rfl | exact Or.inl rfl | exact Or.inr ⟨rfl, rfl⟩ | refine And.intro ?_ ?_)); done)); conv => whnf) | (refine cmp_true rfl ?_; conv => whnf) | (refine ⟨rfl, cmp_true rfl ?_⟩; conv => whnf) | (refine cmp_false ?_ ?_; (focus decide); conv => whnf) | (refine ⟨rfl, cmp_false ?_ ?_⟩; (focus decide); conv => whnf) | (refine ⟨rfl, cmp_true ?_ ?_⟩; (focus decide); conv => whnf) | (refine ⟨rfl, cmp_false (fun h => h rfl) ?_⟩; conv => whnf)))
  exact ⟨.inl rfl, rfl⟩
end Go.Proofs.YtjmpkbmgcbalkaaGreatDoor.Rf
