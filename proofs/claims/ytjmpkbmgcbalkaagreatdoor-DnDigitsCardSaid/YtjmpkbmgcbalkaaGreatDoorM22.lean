/- Several texts, one behind the other. dn: a text read as a name: parsed, Parse, Canon. Conditions: texts of at most 10^6 bytes. dn: Parse and Canon; dn's laws: what they show first. Conditions: texts of at most 10^6 bytes. dn's laws: DnUnder. Conditions: names that fit into memory. Cards: what reads of a struct's type is its fields, one behind the other; whatever program. dn, cards: what reads of a name's type is a name. -/
import Derived.Test.YtjmpkbmgcbalkaaGreatDoorM21
import Derived.Test.YtjmpkbmgcbalkaaGreatDoorM08
import Derived.ChangeArms
/- dn: a text read as a name: parsed, Parse, Canon. Conditions: texts of at most 10^6 bytes. -/
namespace Go.Proofs.YtjmpkbmgcbalkaaGreatDoor.Dn
open Go.RowKit
set_option linter.unusedVariables false
variable (p : Nat → Addr)
theorem rdnOf_ok {q : List UInt8} (h : ∀ x ∈ piecesL 43 q, (partA (mkB x)).isSome = true) : rdnOf q = some ((piecesL 43 q).map avaD) :=
  allM_some (f := fun q : List UInt8 => partA ⟨q.toArray⟩) (dflt := avaD) (fun a b hb => by unfold avaD mkB; rw [hb]; rfl) _ h
theorem rdnOf_bad {q x : List UInt8} (hx : x ∈ piecesL 43 q) (h : partA (mkB x) = none) : rdnOf q = none := allM_none (f := fun q : List UInt8 => partA ⟨q.toArray⟩) hx h
theorem badRdn_none {q : List UInt8} (h : (rdnOf q).isSome = true) : badRdn q = none := by
  unfold badRdn
  rw [Option.map_eq_none_iff, List.find?_eq_none]
  intro x hx hn
  rw [rdnOf_bad hx (by simpa using hn)] at h
  cases h
theorem bad_at {s : ByteArray} {i j : Nat} (hs : s.data.toList ≠ []) (hi : i < (piecesL 44 s.data.toList).length) (hpre : ∀ k (hk : k < (piecesL 44 s.data.toList).length), k < i → (rdnOf (piecesL 44 s.data.toList)[k]).isSome = true)
    (hj : j < (piecesL 43 (piecesL 44 s.data.toList)[i]).length) (hpre2 : ∀ k (hk : k < (piecesL 43 (piecesL 44 s.data.toList)[i]).length), k < j → (partA (mkB (piecesL 43 (piecesL 44 s.data.toList)[i])[k])).isSome = true)
    (h : partA (mkB (piecesL 43 (piecesL 44 s.data.toList)[i])[j]) = none) : parsedV s = .tup [.v (.sl []), .v (dnErr (mkB (piecesL 43 (piecesL 44 s.data.toList)[i])[j]))] := by
  have h1 : badRdn (piecesL 44 s.data.toList)[i] = some (mkB (piecesL 43 (piecesL 44 s.data.toList)[i])[j]) := by
    unfold badRdn
    rw [find_first hj (fun k hk => by have := hpre2 k (by omega) hk; rw [Option.isSome_iff_ne_none] at this; rw [Option.isNone_eq_false_iff, Option.isSome_iff_ne_none]; exact this) (by rw [h]; rfl)]
    rfl
  have h2 : badOf s = mkB (piecesL 43 (piecesL 44 s.data.toList)[i])[j] := by
    unfold badOf
    rw [if_neg hs, findSome_first hi (fun k hk => badRdn_none (hpre k (by omega) hk)) h1]
    rfl
  have h3 : parsedL s.data.toList = none := by
    unfold parsedL nameOf
    rw [if_neg hs, allM_none (List.getElem_mem hi) (rdnOf_bad (List.getElem_mem hj) h)]
    rfl
  unfold parsedV
  rw [h3, h2]
theorem good_at {s : ByteArray} (hs : s.data.toList ≠ []) (h : ∀ q ∈ piecesL 44 s.data.toList, (rdnOf q).isSome = true) : nameOf s.data.toList = some ((piecesL 44 s.data.toList).map rdnD) :=
  allM_some (f := rdnOf) (dflt := rdnD) (fun a b hb => by unfold rdnD; rw [hb]; rfl) _ h
theorem parsed_good {s : ByteArray} {d : Name} (hs : s.data.toList ≠ []) (hn : nameOf s.data.toList = some d) (hr : rightB d = true) : parsedV s = .tup [.v (vName d), .v .nili] := by
  have h3 : parsedL s.data.toList = some d := by
    unfold parsedL
    rw [if_neg hs, hn]
    simp [hr]
  unfold parsedV
  rw [h3]
theorem allM_isSome {α β : Type} {f : α → Option β} : ∀ {l : List α} {m : List β}, allM f l = some m → ∀ a ∈ l, (f a).isSome = true
  | [], m, h, a, ha => by cases ha
  | b :: t, m, h, a, ha => by
    rw [allM] at h
    cases hb : f b with
    | none => rw [hb] at h; cases h
    | some y =>
      rw [hb] at h
      dsimp only at h
      rcases List.mem_cons.1 ha with rfl | ha
      · rw [hb]; rfl
      · obtain ⟨m', h1, _⟩ := Option.map_eq_some_iff.1 h
        exact allM_isSome h1 a ha
theorem parsed_wrong {s : ByteArray} {d : Name} (hs : s.data.toList ≠ []) (hn : nameOf s.data.toList = some d) (hr : rightB d = false) : parsedV s = .tup [.v (.sl []), .v (dnErr s)] := by
  have h3 : parsedL s.data.toList = none := by
    unfold parsedL
    rw [if_neg hs, hn]
    simp [hr]
  have h2 : badOf s = s := by
    unfold badOf
    rw [if_neg hs, List.findSome?_eq_none_iff.2 (fun q hq => badRdn_none (allM_isSome hn q hq))]
    rfl
  unfold parsedV
  rw [h3, h2]
theorem mkB_size (l : List UInt8) : (mkB l).size = l.length := rfl
theorem getElem?_map_some {α : Type} {f : α → List V} {l : List α} {i : Nat} {v : List V} (h : (l.map f)[i]? = some v) : ∃ hi : i < l.length, v = f l[i] := by
  rw [List.getElem?_map, Option.map_eq_some_iff] at h
  obtain ⟨a, h1, h2⟩ := h
  obtain ⟨hi, h3⟩ := List.getElem?_eq_some_iff.1 h1
  exact ⟨hi, by rw [h3, h2]⟩
theorem parsed_fn (s : ByteArray) (hs : s.size ≤ 1000000) : Fn Tryz.prog (envX p) 32 [.v (.str s)] (parsedV s) := by
  have hsl := Txt.size_list s
  refine fn_prog tabOk mixed Tryz.f32 Tryz.func32 (by kernel_rfl) (by kernel_rfl) ?_
  conv => whnf
  refine cmp_split (fun h => ?_) (fun h => ?_)
  · subst h
    conv => whnf
    exact ⟨⟨.inr ⟨rfl, rfl⟩, .inl rfl, trivial⟩, rfl⟩
  · have hne : s.data.toList ≠ [] := fun e => h (by cases s with | mk data => cases data with | mk l => simp at e; rw [e])
    have hpl := pieces_le 44 s.data.toList
    generalize hPP : piecesL 44 s.data.toList = PP at hpl
    conv => whnf
    refine st_call (pieces_fn p s 44) ⟨.inl rfl, trivial⟩ rfl rfl ?_
    conv => whnf
    refine ⟨_, _, fun i => ⟨47, [(0, .v (.str s)), (2, .ptr 2 0), (3, .ptr 3 0), (4, .ptr 4 0)], [(2, [.v .nils]), (3, [.v .nili]), (4, [.own 39 42 ((PP.take i).map fun q => cRdn (rdnD q))])], [(39, some 42)]⟩, fun i => ∀ k (hk : k < PP.length), k < i → (rdnOf PP[k]).isSome = true, pieces_it p s 44 (by omega) (by decide), ⟨rfl, trivial⟩, rfl, ⟨fun _ _ hk => absurd hk (Nat.not_lt_zero _), ?_⟩, fun _ => rfl, ?_, fun i v hv hinv => ?_, fun hinv => ?_⟩
    · exact ⟨[(39, none)], rfl, rfl, ⟨.inl rfl, ⟨rfl, rfl⟩, ⟨rfl, rfl⟩, ⟨rfl, rfl⟩, trivial⟩, ⟨⟨.inl rfl, trivial⟩, ⟨.inl rfl, trivial⟩, ⟨⟨rfl, rfl, rfl⟩, trivial⟩, trivial⟩, ⟨trivial, trivial⟩⟩
    · exact fun x hx => by simp at hx; subst hx; show 16 < 47; decide
    · rw [hPP] at hv
      obtain ⟨hi, rfl⟩ := getElem?_map_some hv
      refine ⟨rfl, ?_⟩
      have hyl := hpl.1 _ (List.getElem_mem hi)
      have hql := pieces_le 43 PP[i]
      generalize hQQ : piecesL 43 PP[i] = QQ at hql
      conv => whnf
      refine st_call (pieces_fn p (mkB PP[i]) 43) ⟨.inl rfl, trivial⟩ rfl rfl ?_
      conv => whnf
      refine ⟨_, _, fun j => ⟨47, [(0, .v (.str s)), (2, .ptr 2 0), (3, .ptr 3 0), (4, .ptr 4 0), (6, .ptr 6 0)], [(2, [.v .nils]), (3, [.v .nili]), (4, [.own 39 42 ((PP.take i).map fun q => cRdn (rdnD q))]), (6, [.own 34 39 ((QQ.take j).map fun x => cAva (avaD x))])], [(39, some 42), (34, some 39)]⟩, fun j => ∀ k (hk : k < QQ.length), k < j → (partA (mkB QQ[k])).isSome = true, pieces_it p (mkB PP[i]) 43 (by rw [mkB_size]; omega) (by decide), ⟨rfl, trivial⟩, rfl, ⟨fun _ _ hk => absurd hk (Nat.not_lt_zero _), ?_⟩, fun _ => rfl, ?_, fun j v hv hinv2 => ?_, fun hinv2 => ?_⟩
      · exact ⟨[(39, some 39), (34, none)], rfl, rfl, ⟨.inl rfl, ⟨rfl, rfl⟩, ⟨rfl, rfl⟩, ⟨rfl, rfl⟩, ⟨rfl, rfl⟩, trivial⟩, ⟨⟨.inl rfl, trivial⟩, ⟨.inl rfl, trivial⟩, ⟨⟨rfl, rfl, rfl⟩, trivial⟩, ⟨⟨rfl, rfl, rfl⟩, trivial⟩, trivial⟩, ⟨rfl, trivial, trivial⟩⟩
      · exact fun x hx => by simp at hx; subst hx; show 21 < 47; decide
      · rw [mkB_list, hQQ] at hv
        obtain ⟨hj, rfl⟩ := getElem?_map_some hv
        refine ⟨rfl, ?_⟩
        have hzl := hql.1 _ (List.getElem_mem hj)
        have hP := part_fn p (mkB QQ[j]) (by rw [mkB_size]; omega)
        unfold partV at hP
        cases ha : partA (mkB QQ[j]) with
        | none =>
          rw [ha] at hP
          dsimp only at hP
          have hbad : parsedV s = .tup [.v (.sl []), .v (dnErr (mkB QQ[j]))] := by
            subst hPP; subst hQQ
            exact bad_at hne hi hinv hj hinv2 ha
          rw [hbad]
          conv => whnf
          refine st_call hP ⟨.inl rfl, trivial⟩ rfl rfl ?_
          conv => whnf
          refine ⟨[], ⟨47, [(2, .ptr 2 0), (3, .ptr 3 0)], [(2, [.v .nils]), (3, [.v (dnErr (mkB QQ[j]))])], []⟩, ⟨rfl, rfl, ⟨⟨rfl, rfl⟩, ⟨rfl, rfl⟩, trivial⟩, ⟨⟨.inl rfl, trivial⟩, ⟨.inl rfl, trivial⟩, trivial⟩, trivial⟩, rfl, ?_⟩
          conv => whnf
          refine ⟨[], ⟨47, [(2, .ptr 2 0), (3, .ptr 3 0)], [(2, [.v .nils]), (3, [.v (dnErr (mkB QQ[j]))])], []⟩, ⟨rfl, rfl, ⟨⟨rfl, rfl⟩, ⟨rfl, rfl⟩, trivial⟩, ⟨⟨.inl rfl, trivial⟩, ⟨.inl rfl, trivial⟩, trivial⟩, trivial⟩, rfl, ?_⟩
          conv => whnf
          exact ⟨⟨.inr ⟨rfl, rfl⟩, .inl rfl, trivial⟩, rfl⟩
        | some a =>
          rw [ha] at hP
          dsimp only at hP
          conv => whnf
          refine st_call hP ⟨.inl rfl, trivial⟩ rfl rfl ?_
          conv => whnf
          have had : avaD QQ[j] = a := by unfold avaD; rw [ha]; rfl
          refine st_app (by rw [List.length_map, List.length_take, List.length_singleton]; omega) (by simp [V.cells]) (show _ = (QQ.take (j + 1)).map fun x => cAva (avaD x) from by rw [← map_take_succ (enc := fun x => cAva (avaD x)) hj, had]; rfl) ?_
          conv => whnf
          refine ⟨fun k hk hkj => ?_, [(39, some 39), (34, some 34)], ?_⟩
          · rcases Nat.lt_succ_iff_lt_or_eq.1 hkj with h | h
            · exact hinv2 k hk h
            · subst h; rw [ha]; rfl
          · exact ⟨rfl, rfl, ⟨.inl rfl, ⟨rfl, rfl⟩, ⟨rfl, rfl⟩, ⟨rfl, rfl⟩, ⟨rfl, rfl⟩, trivial⟩, ⟨⟨.inl rfl, trivial⟩, ⟨.inl rfl, trivial⟩, ⟨⟨rfl, rfl, rfl⟩, trivial⟩, ⟨⟨rfl, rfl, rfl⟩, trivial⟩, trivial⟩, ⟨rfl, rfl, trivial⟩⟩
      · rw [List.length_map, mkB_list, hQQ]
        rw [List.length_map, mkB_list, hQQ] at hinv2
        have hok : ∀ x ∈ piecesL 43 PP[i], (partA (mkB x)).isSome = true := fun x hx => by
          rw [hQQ] at hx
          obtain ⟨k, hk, rfl⟩ := List.getElem_of_mem hx
          exact hinv2 k hk hk
        have hrd : rdnD PP[i] = QQ.map avaD := by unfold rdnD; rw [rdnOf_ok hok, hQQ]; rfl
        have hsome : (rdnOf PP[i]).isSome = true := by rw [rdnOf_ok hok]; rfl
        conv => whnf
        refine st_app (by rw [List.length_map, List.length_take, List.length_singleton]; omega) (by simp [V.cells]) (show _ = (PP.take (i + 1)).map fun q => cRdn (rdnD q) from by rw [← map_take_succ (enc := fun q => cRdn (rdnD q)) hi, hrd, cRdn, List.map_map, List.take_length]; rfl) ?_
        conv => whnf
        refine ⟨fun k hk hki => ?_, [(39, some 39)], ?_⟩
        · rcases Nat.lt_succ_iff_lt_or_eq.1 hki with h | h
          · exact hinv k hk h
          · subst h; exact hsome
        · exact ⟨rfl, rfl, ⟨.inl rfl, ⟨rfl, rfl⟩, ⟨rfl, rfl⟩, ⟨rfl, rfl⟩, trivial⟩, ⟨⟨.inl rfl, trivial⟩, ⟨.inl rfl, trivial⟩, ⟨⟨rfl, rfl, rfl⟩, trivial⟩, trivial⟩, ⟨rfl, trivial⟩⟩
    · rw [List.length_map, hPP]
      rw [List.length_map, hPP] at hinv
      have hok : ∀ q ∈ piecesL 44 s.data.toList, (rdnOf q).isSome = true := fun q hq => by
        rw [hPP] at hq
        obtain ⟨k, hk, rfl⟩ := List.getElem_of_mem hq
        exact hinv k hk hk
      have hgood := good_at hne hok
      rw [hPP] at hgood
      generalize hd : PP.map rdnD = d at hgood
      have hR := right_fn p d
      have hvd : V.sl ((PP.take PP.length).map fun q => cRdn (rdnD q)) = vName d := by
        rw [List.take_length, ← hd, vName, List.map_map]; rfl
      cases hr : rightB d with
      | false =>
        rw [hr] at hR
        rw [parsed_wrong hne hgood hr]
        conv => whnf
        refine st_call hR ⟨hvd.symm, trivial⟩ rfl rfl ?_
        conv => whnf
        exact ⟨⟨.inr ⟨rfl, rfl⟩, .inl rfl, trivial⟩, rfl⟩
      | true =>
        rw [hr] at hR
        rw [parsed_good hne hgood hr]
        conv => whnf
        refine st_call hR ⟨hvd.symm, trivial⟩ rfl rfl ?_
        conv => whnf
        exact ⟨⟨hvd.symm, .inl rfl, trivial⟩, rfl⟩
end Go.Proofs.YtjmpkbmgcbalkaaGreatDoor.Dn
/- dn: Parse and Canon; dn's laws: what they show first. Conditions: texts of at most 10^6 bytes. -/
namespace Go.Proofs.YtjmpkbmgcbalkaaGreatDoor.Dn
open Go.RowKit
set_option linter.unusedVariables false
variable (p : Nat → Addr)
def parsedD (s : ByteArray) : Name := (parsedL s.data.toList).getD []
def parsedOk (s : ByteArray) : Bool := (parsedL s.data.toList).isSome
def canonB (s : ByteArray) : ByteArray := if parsedOk s = true then mkB (nameL (parsedD s)) else ⟨#[]⟩
theorem parse_fn (s : ByteArray) (hs : s.size ≤ 1000000) : Fn Tryz.prog (envX p) 15 [.v (.str s)] (.tup [.v (vName (parsedD s)), .v (.int .i64 (codeN (parsedOk s)))]) := by
  have hP := parsed_fn p s hs
  unfold parsedV at hP
  unfold parsedD parsedOk codeN
  cases hd : parsedL s.data.toList with
  | none =>
    rw [hd] at hP
    refine fn_prog tabOk mixed Tryz.f15 Tryz.func15 (by kernel_rfl) (by kernel_rfl) ?_
    conv => whnf
    refine st_call hP ⟨.inl rfl, trivial⟩ rfl rfl ?_
    conv => whnf
    refine st_call (told_wrong_fn p _) ⟨.inl rfl, trivial⟩ rfl rfl ?_
    conv => whnf
    exact ⟨⟨.inl rfl, .inl rfl, trivial⟩, rfl⟩
  | some d =>
    rw [hd] at hP
    refine fn_prog tabOk mixed Tryz.f15 Tryz.func15 (by kernel_rfl) (by kernel_rfl) ?_
    conv => whnf
    refine st_call hP ⟨.inl rfl, trivial⟩ rfl rfl ?_
    conv => whnf
    refine st_call (told_nil_fn p) ⟨.inl rfl, trivial⟩ rfl rfl ?_
    conv => whnf
    exact ⟨⟨.inl rfl, .inl rfl, trivial⟩, rfl⟩
theorem canon_fn (s : ByteArray) (hs : s.size ≤ 1000000) : Fn Tryz.prog (envX p) 17 [.v (.str s)] (.tup [.v (.str (canonB s)), .v (.int .i64 (codeN (parsedOk s)))]) := by
  have hP := parsed_fn p s hs
  unfold parsedV at hP
  unfold canonB parsedD parsedOk codeN
  cases hd : parsedL s.data.toList with
  | none =>
    rw [hd] at hP
    refine fn_prog tabOk mixed Tryz.f17 Tryz.func17 (by kernel_rfl) (by kernel_rfl) ?_
    conv => whnf
    refine st_call hP ⟨.inl rfl, trivial⟩ rfl rfl ?_
    conv => whnf
    refine st_call (told_wrong_fn p _) ⟨.inl rfl, trivial⟩ rfl rfl ?_
    conv => whnf
    exact ⟨⟨.inl rfl, .inl rfl, trivial⟩, rfl⟩
  | some d =>
    rw [hd] at hP
    refine fn_prog tabOk mixed Tryz.f17 Tryz.func17 (by kernel_rfl) (by kernel_rfl) ?_
    conv => whnf
    refine st_call hP ⟨.inl rfl, trivial⟩ rfl rfl ?_
    conv => whnf
    refine st_call (printed_fn p d (right_small (parsed_right _ _ hd))) ⟨.inl rfl, trivial⟩ rfl rfl ?_
    conv => whnf
    exact ⟨⟨.inl rfl, .inl rfl, trivial⟩, rfl⟩
def cutS (s : ByteArray) : ByteArray := s.extract 0 (min s.size 300)
theorem cutS_fn (X : En) (s : ByteArray) : Fn Tryz.prog X 12 [.v (.str s)] (.v (.str (cutS s))) := by
  refine fn_prog tabOk mixed Tryz.f12 Tryz.func12 (by kernel_rfl) (by kernel_rfl) ?_
  conv => whnf
  refine st_min 300 ?_
  conv => whnf
  refine st_cut 0 (min s.size 300) rfl rfl (by omega) (by omega) ?_
  conv => whnf
  exact ⟨.inl rfl, rfl⟩
def shN : Name := [[(⟨#[99, 110]⟩, ⟨#[97, 44, 98]⟩), (⟨#[115, 110]⟩, ⟨#[99]⟩)], [(⟨#[111]⟩, ⟨#[120]⟩)]]
def shA : ByteArray := ⟨#[99, 110, 61, 97, 92, 50, 99, 98, 43, 115, 110, 61, 99, 44, 111, 61, 120]⟩
def shB : ByteArray := ⟨#[99, 110, 61, 97, 44, 32, 111, 61, 120]⟩
theorem sh1 : rightB shN = true := by decide +kernel
theorem sh2 : mkB (nameL shN) = ⟨#[99, 110, 61, 97, 92, 44, 98, 43, 115, 110, 61, 99, 44, 111, 61, 120]⟩ := by decide +kernel
theorem sh3 : parsedL shA.data.toList = some shN := by decide +kernel
theorem sh4 : parsedL shB.data.toList = none := by decide +kernel
theorem shown_fn : Fn Tryz.prog (envX p) 10 [] (.v (.bool true)) := by
  have p1 := print_fn p shN
  have p2 := parse_fn p shA (by decide)
  have p3 := canon_fn p shA (by decide)
  have p4 := parse_fn p shB (by decide)
  unfold printedB at p1
  unfold parsedD parsedOk at p2
  unfold canonB parsedD parsedOk at p3
  unfold parsedD parsedOk at p4
  rw [sh3] at p2 p3
  rw [sh4] at p4
  rw [if_pos sh1, sh1, sh2] at p1
  change Fn _ _ _ _ (.tup [.v (vName shN), .v (.int .i64 0)]) at p2
  change Fn _ _ _ _ (.tup [.v (.str (mkB (nameL shN))), .v (.int .i64 0)]) at p3
  change Fn _ _ _ _ (.tup [.v (vName []), .v (.int .i64 70)]) at p4
  rw [sh2] at p3
  change Fn _ _ _ _ (.tup [_, .v (.int .i64 0)]) at p1
  have p5 := same_fn p shN shN ⟨by decide, by decide⟩
  have p6 := under_fn p shN (shN.drop 1) ⟨by decide, by decide⟩ (by decide)
  have p7 := under_fn p (shN.drop 1) shN ⟨by decide, by decide⟩ (by decide)
  have p8 := type_fn p ⟨#[50, 46, 53, 46, 52, 46, 51]⟩
  have p9 := type_fn p ⟨#[50, 46, 48, 53]⟩
  rw [show decide (shN = shN) = true by simp] at p5
  rw [show underB shN (shN.drop 1) = true by decide +kernel] at p6
  rw [show underB (shN.drop 1) shN = false by decide +kernel] at p7
  rw [show typeB (⟨#[50, 46, 53, 46, 52, 46, 51]⟩ : ByteArray).data.toList = true by decide +kernel] at p8
  rw [show typeB (⟨#[50, 46, 48, 53]⟩ : ByteArray).data.toList = false by decide +kernel] at p9
  refine fn_prog tabOk mixed Tryz.f10 Tryz.func10 (by kernel_rfl) (by kernel_rfl) ?_
  conv => whnf
  refine st_call p1 ⟨rfl, trivial⟩ rfl rfl ?_
  conv => whnf
  refine st_call p2 ⟨.inl rfl, trivial⟩ rfl rfl ?_
  conv => whnf
  refine st_call p3 ⟨.inl rfl, trivial⟩ rfl rfl ?_
  conv => whnf
  refine st_call p4 ⟨.inl rfl, trivial⟩ rfl rfl ?_
  conv => whnf
  refine cmp_true rfl ?_
  conv => whnf
  refine ⟨rfl, cmp_true rfl ?_⟩
  conv => whnf
  refine ⟨rfl, cmp_true rfl ?_⟩
  conv => whnf
  refine st_call p5 ⟨rfl, .inl rfl, trivial⟩ rfl rfl ?_
  conv => whnf
  refine cmp_true rfl ?_
  conv => whnf
  refine ⟨rfl, cmp_true rfl ?_⟩
  conv => whnf
  refine ⟨rfl, cmp_true rfl ?_⟩
  conv => whnf
  refine st_sub 1 2 rfl rfl (by decide) (by decide) (by simp [V.cells]) (z := (shN.drop 1).map cRdn) rfl ?_
  conv => whnf
  refine st_call p6 ⟨rfl, .inl rfl, trivial⟩ rfl rfl ?_
  conv => whnf
  refine st_sub 1 2 rfl rfl (by decide) (by decide) (by simp [V.cells]) (z := (shN.drop 1).map cRdn) rfl ?_
  conv => whnf
  refine st_call p7 ⟨.inl rfl, rfl, trivial⟩ rfl rfl ?_
  conv => whnf
  refine st_call p8 ⟨.inl rfl, trivial⟩ rfl rfl ?_
  conv => whnf
  refine st_call p9 ⟨.inl rfl, trivial⟩ rfl rfl ?_
  conv => whnf
  exact ⟨.inl rfl, rfl⟩
end Go.Proofs.YtjmpkbmgcbalkaaGreatDoor.Dn
/- dn's laws: DnUnder. Conditions: names that fit into memory. -/
namespace Go.Proofs.YtjmpkbmgcbalkaaGreatDoor.Dn
open Go.RowKit
set_option linter.unusedVariables false
variable (p : Nat → Addr)
theorem cut_small (d : Name) : Small (cutName d) := by
  refine ⟨by simp [cutName]; omega, fun r hr => ?_⟩
  obtain ⟨r, h1, rfl⟩ := List.mem_map.1 hr
  refine ⟨by simp [cutRdn]; omega, fun a ha => ?_⟩
  obtain ⟨a, h2, rfl⟩ := List.mem_map.1 ha
  exact ⟨by simp [cutAva, cutB]; omega, by simp [cutAva, cutB]; omega⟩
theorem Small.ok {d : Name} (h : Small d) : NameOk d := ⟨by have := h.len; omega, fun r hr => by have := (h.row r hr).1; omega⟩
theorem under_iff (d b : Name) : underB d b = true ↔ b <:+ d := by
  unfold underB
  rw [Bool.and_eq_true, decide_eq_true_eq, decide_eq_true_eq, List.suffix_iff_eq_drop]
  exact ⟨fun h => h.2.symm, fun h => ⟨by have := congrArg List.length h; rw [List.length_drop] at this; omega, h.symm⟩⟩
set_option maxRecDepth 100000 in
theorem under_law (x0 y0 z0 : Name) : Fn Tryz.prog (envX p) 5 [.v (vName x0), .v (vName y0), .v (vName z0)] (.v (.bool true)) := by
  have c1 := cut_fn (envX p) x0
  have c2 := cut_fn (envX p) y0
  have c3 := cut_fn (envX p) z0
  have sx := cut_small x0
  have sy := cut_small y0
  have sz := cut_small z0
  generalize cutName x0 = x at *
  generalize cutName y0 = y at *
  generalize cutName z0 = z at *
  have hlx := sx.len
  have hly := sy.len
  have hlz := sz.len
  have u1 := under_fn p x y sx.ok (by omega)
  have u2 := under_fn p y z sy.ok (by omega)
  have u3 := under_fn p x z sx.ok (by omega)
  have u4 := under_fn p y x sy.ok (by omega)
  have u5 := under_fn p x x sx.ok (by omega)
  have u6 := under_fn p x [] sx.ok (by decide)
  have u7 := under_fn p (x ++ y) y ⟨by rw [List.length_append]; omega, fun r hr => (List.mem_append.1 hr).elim (sx.ok.2 r) (sy.ok.2 r)⟩ (by omega)
  have u8 := same_fn p x y sx.ok
  rw [(under_iff _ _).2 (List.suffix_refl _)] at u5
  rw [(under_iff _ _).2 List.nil_suffix] at u6
  rw [(under_iff _ _).2 (List.suffix_append _ _)] at u7
  have f1 : underB x y = true → underB y z = true → underB x z = true := fun h1 h2 => (under_iff _ _).2 (((under_iff _ _).1 h2).trans ((under_iff _ _).1 h1))
  have f2 : decide (x = y) = (underB x y && underB y x) := by
    rw [Bool.eq_iff_iff, Bool.and_eq_true, decide_eq_true_eq, under_iff, under_iff]
    exact ⟨fun h => by subst h; exact ⟨List.suffix_refl _, List.suffix_refl _⟩, fun ⟨h1, h2⟩ => h2.eq_of_length (Nat.le_antisymm h2.length_le h1.length_le)⟩
  rw [f2] at u8
  generalize underB x y = b1 at *
  generalize underB y z = b2 at *
  generalize underB x z = b3 at *
  generalize underB y x = b4 at *
  refine fn_prog tabOk mixed Tryz.f5 Tryz.func5 (by kernel_rfl) (by kernel_rfl) ?_
  conv => whnf
  refine st_call (shown_fn p) trivial rfl rfl ?_
  conv => whnf
  refine st_call c1 ⟨.inl rfl, trivial⟩ rfl rfl ?_
  conv => whnf
  refine st_call c2 ⟨.inl rfl, trivial⟩ rfl rfl ?_
  conv => whnf
  refine st_call c3 ⟨.inl rfl, trivial⟩ rfl rfl ?_
  conv => whnf
  refine ⟨by rw [List.length_map]; omega, by simp [cRdn], ?_⟩
  conv => whnf
  refine st_app (zs := (x ++ y).map cRdn) (by simp; omega) (by simp [cRdn]) (List.map_append ..).symm ?_
  conv => whnf
  cases b1 <;> cases b2 <;> cases b3 <;> cases b4 <;> first | exact absurd (f1 rfl rfl) (by decide) | skip
  all_goals
    (refine st_call u1 ?_ rfl rfl ?_; (focus ((repeat' (first | exact trivial | exact rfl | exact Or.inl rfl | exact Or.inr ⟨rfl, rfl⟩ | refine And.intro ?_ ?_)); done)); conv => whnf)
    try (refine st_call u2 ?_ rfl rfl ?_; (focus ((repeat' (first | exact trivial | exact rfl | exact Or.inl rfl | exact Or.inr ⟨rfl, rfl⟩ | refine And.intro ?_ ?_)); done)); conv => whnf)
    (refine st_call u5 ?_ rfl rfl ?_; (focus ((repeat' (first | exact trivial | exact rfl | exact Or.inl rfl | exact Or.inr ⟨rfl, rfl⟩ | refine And.intro ?_ ?_)); done)); conv => whnf)
    (refine st_call u6 ?_ rfl rfl ?_; (focus ((repeat' (first | exact trivial | exact rfl | exact Or.inl rfl | exact Or.inr ⟨rfl, rfl⟩ | refine And.intro ?_ ?_)); done)); conv => whnf)
    (refine st_call u7 ?_ rfl rfl ?_; (focus ((repeat' (first | exact trivial | exact rfl | exact Or.inl rfl | exact Or.inr ⟨rfl, rfl⟩ | refine And.intro ?_ ?_)); done)); conv => whnf)
    try (refine st_call u3 ?_ rfl rfl ?_; (focus ((repeat' (first | exact trivial | exact rfl | exact Or.inl rfl | exact Or.inr ⟨rfl, rfl⟩ | refine And.intro ?_ ?_)); done)); conv => whnf)
    try (refine st_call u1 ?_ rfl rfl ?_; (focus ((repeat' (first | exact trivial | exact rfl | exact Or.inl rfl | exact Or.inr ⟨rfl, rfl⟩ | refine And.intro ?_ ?_)); done)); conv => whnf)
    try (refine st_call u4 ?_ rfl rfl ?_; (focus ((repeat' (first | exact trivial | exact rfl | exact Or.inl rfl | exact Or.inr ⟨rfl, rfl⟩ | refine And.intro ?_ ?_)); done)); conv => whnf)
    (refine st_call u8 ?_ rfl rfl ?_; (focus ((repeat' (first | exact trivial | exact rfl | exact Or.inl rfl | exact Or.inr ⟨rfl, rfl⟩ | refine And.intro ?_ ?_)); done)); conv => whnf)
    refine cmp_true rfl ?_
    conv => whnf
    exact ⟨.inl rfl, rfl⟩
end Go.Proofs.YtjmpkbmgcbalkaaGreatDoor.Dn
/- Cards: what reads of a struct's type is its fields, one behind the other; whatever program. -/
namespace Go.Proofs.YtjmpkbmgcbalkaaGreatDoor
open Go.RowKit
set_option linter.unusedVariables false
theorem opens_struct1 {P : Program} {α : Type} {w : World} {R : View α} {G : α → Prop} {t : TypeId} {f : Field} (ht : P.underlying t = some (.struct #[f])) (hc : P.cellsOf t = P.cellsOf f.type) (ho : f.offset = 0) (he : Opens P w R G f.type) : Opens P w R G t := by
  intro H enc fuel cs y h
  obtain ⟨xs, n, _, _, hl, hx, hf⟩ := DataW.trod_struct ht h
  have h0 := hf 0 f rfl
  rw [ho, List.drop_zero, List.take_of_length_le (by omega)] at h0
  have hxs : 0 < xs.length := by rw [hx]; exact Nat.one_pos
  rw [List.getElem?_eq_getElem hxs] at h0
  exact he H enc n cs _ h0
theorem opens_struct2 {P : Program} {α β : Type} {w : World} {R : View α} {G : α → Prop} {R' : View β} {G' : β → Prop} {t : TypeId} {f f' : Field} (ht : P.underlying t = some (.struct #[f, f'])) (hc : P.cellsOf t = P.cellsOf f.type + P.cellsOf f'.type) (ho : f.offset = 0) (ho' : f'.offset = P.cellsOf f.type) (he : Opens P w R G f.type) (he' : Opens P w R' G' f'.type) : Opens P w (VCat R R') (fun x => G x.1 ∧ G' x.2) t := by
  intro H enc fuel cs y h
  obtain ⟨xs, n, _, _, hl, hx, hf⟩ := DataW.trod_struct ht h
  have h0 := hf 0 f rfl
  have h1 := hf 1 f' rfl
  rw [ho, List.drop_zero] at h0
  rw [ho', List.take_of_length_le (by rw [List.length_drop]; omega)] at h1
  have hx0 : 0 < xs.length := by rw [hx]; exact Nat.two_pos
  have hx1 : 1 < xs.length := by rw [hx]; exact Nat.lt_succ_self 1
  rw [List.getElem?_eq_getElem hx0] at h0
  rw [List.getElem?_eq_getElem hx1] at h1
  obtain ⟨a, ha, ga⟩ := he H enc n _ _ h0
  obtain ⟨b, hb, gb⟩ := he' H enc n _ _ h1
  exact ⟨(a, b), ⟨_, _, (List.take_append_drop _ _).symm, ha, hb⟩, ga, gb⟩
end Go.Proofs.YtjmpkbmgcbalkaaGreatDoor
/- dn, cards: what reads of a name's type is a name. -/
namespace Go.Proofs.YtjmpkbmgcbalkaaGreatDoor.Dn
open Go.RowKit
set_option linter.unusedVariables false
theorem ava_rep {w : World} (a : Ava) (cs : List Value) (h : VAva w (fun _ => True) cs a) : RepL w (Lall w) (cAva a) cs := by
  rw [VAva.cells h]
  exact ⟨_, _, rfl, rfl, rfl, _, _, rfl, rfl, rfl, rfl⟩
theorem rdn_rep {w : World} (r : Rdn) (cs : List Value) (h : VRdn w (fun _ => True) cs r) : RepL w (Lall w) (cRdn r) cs := by
  obtain ⟨A, n, c, rfl⟩ := h.cells
  exact ⟨_, _, rfl, rfl, view_rep (k := 2) (enc := cAva) ava_rep (fun _ => rfl) h, rfl⟩
theorem name_rep {w : World} {d : Name} {v : Value} (h : VName w (fun _ => True) [v] d) : Rep w (Lall w) (vName d) v := view_rep (k := 1) (enc := cRdn) rdn_rep (fun _ => rfl) h
theorem opens_ava (w : World) : Opens Tryz.prog w VAva (fun _ => True) 39 := fun H enc fuel cs y h =>
  let ⟨x, hx, _⟩ := opens_struct2 (P := Tryz.prog) (R := VStr) (R' := VStr) Tryz.underlying39 (by kernel_rfl) rfl (by kernel_rfl) (opens_str Tryz.underlying9) (opens_str Tryz.underlying9) H enc fuel cs y h
  ⟨x, hx, trivial⟩
theorem opens_rdn (w : World) : Opens Tryz.prog w VRdn (fun _ => True) 42 := fun H enc fuel cs y h =>
  let ⟨x, hx, _⟩ := opens_struct1 (P := Tryz.prog) (R := VRdn) Tryz.underlying42 (by kernel_rfl) rfl (opens_slice VAva.ok (by kernel_rfl) (by decide) Tryz.underlying40 (opens_ava w)) H enc fuel cs y h
  ⟨x, hx, trivial⟩
theorem opens_name (w : World) : Opens Tryz.prog w VName (fun _ => True) 22 := fun H enc fuel cs y h =>
  let ⟨x, hx, _⟩ := opens_slice (P := Tryz.prog) (R := VRdn) VRdn.ok (by kernel_rfl) (by decide) Tryz.underlying22 (opens_rdn w) H enc fuel cs y h
  ⟨x, hx, trivial⟩
end Go.Proofs.YtjmpkbmgcbalkaaGreatDoor.Dn
