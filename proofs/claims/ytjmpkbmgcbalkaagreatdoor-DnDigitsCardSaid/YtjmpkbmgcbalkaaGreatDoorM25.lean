/- dn's law DnDigits: a value whose bytes are all printed by their digits is read as it is. No conditions. -/
import Derived.Test.YtjmpkbmgcbalkaaGreatDoorM24
import Derived.Test.YtjmpkbmgcbalkaaGreatDoorM12
namespace Go.Proofs.YtjmpkbmgcbalkaaGreatDoor.Dn
open Go.RowKit
set_option linter.unusedVariables false
/-- bytes by their digits -/
def hexA (l : List UInt8) : List UInt8 := l.flatMap fun b => 92 :: Code.hexB b
theorem hexA_snoc (l : List UInt8) (b : UInt8) : hexA (l ++ [b]) = hexA l ++ 92 :: Code.hexB b := by simp [hexA]
theorem hexA_len (l : List UInt8) : (hexA l).length = 3 * l.length := by
  induction l with
  | nil => rfl
  | cons b t ih => rw [hexA, List.flatMap_cons, List.length_append, ← hexA, ih]; simp [Code.hexB]; omega
theorem hexA_step (s : ByteArray) : ∀ (v2 v1 : List UInt8) (q f : Nat), v2.length ≤ f → s.data.toList.drop q = hexA v2 → Esc.readR true s f q v1 = some (v1 ++ v2)
  | [], v1, q, f, _, h => by
    have hp : ¬ q < s.size := by
      intro hp
      rw [Txt.drop_cons s q hp] at h; cases h
    cases f with
    | zero => simp [Esc.readR]
    | succ f => simp [Esc.readR, hp]
  | b :: t, v1, q, 0, hf, _ => by simp at hf
  | b :: t, v1, q, f + 1, hf, h => by
    have hf' : t.length ≤ f := by simpa using hf
    rw [hexA, List.flatMap_cons] at h
    simp only [Code.hexB, List.cons_append, List.nil_append] at h
    obtain ⟨p0, q0, r0⟩ := at_drop s q _ _ h
    obtain ⟨p1, q1, r1⟩ := at_drop s (q + 1) _ _ r0
    obtain ⟨p2, q2, r2⟩ := at_drop s (q + 1 + 1) _ _ r1
    have hns := hex_nosign ⟨b.toNat / 16, by have := b.toNat_lt; omega⟩
    have hsg : Esc.signAt true s (q + 1) = some (b, q + 1 + 2) := by
      have htw : Esc.two s (q + 1) = Code.hexB b := by
        unfold Esc.two
        rw [r0]; rfl
      unfold Esc.signAt Esc.digitAt
      rw [dif_pos p1, q1, Bool.true_and, if_neg (by rw [hns]; decide), htw, unhex_hex]
      rfl
    rw [Esc.readR, dif_pos p0, q0, if_pos (by decide), hsg, show v1 ++ b :: t = (v1 ++ [b]) ++ t by simp]
    exact hexA_step s t (v1 ++ [b]) (q + 1 + 2) f hf' r2
theorem hexD_bytes : ∀ m : Fin 16, 32 ≤ (Code.hexD m.1).toNat ∧ (Code.hexD m.1).toNat ≤ 126 := by decide
theorem hexA_bytes (l : List UInt8) : ∀ x ∈ hexA l, 32 ≤ x.toNat ∧ x.toNat ≤ 126 := by
  intro x hx
  obtain ⟨b, _, hb⟩ := List.mem_flatMap.1 hx
  have := b.toNat_lt
  simp only [Code.hexB, List.mem_cons, List.not_mem_nil, or_false] at hb
  rcases hb with rfl | rfl | rfl
  · decide
  · exact hexD_bytes ⟨b.toNat / 16, by omega⟩
  · exact hexD_bytes ⟨b.toNat % 16, by omega⟩
theorem hexA_read (l : List UInt8) : Esc.readL true ⟨(hexA l).toArray⟩ = some l := by
  have hall := hexA_bytes l
  have hu := utf_ascii ⟨(hexA l).toArray⟩ (fun b hb => by have := (hall b hb).2; omega)
  have hz : (hexA l).contains 0 = false := by
    cases h : (hexA l).contains 0 with
    | false => rfl
    | true => have := (hall 0 (List.contains_iff_mem.1 h)).1; simp at this
  unfold Esc.readL
  rw [hu]
  show (if (!true || (hexA l).contains 0) = true then none else _) = _
  rw [hz, if_neg (by decide)]
  exact hexA_step ⟨(hexA l).toArray⟩ l [] 0 _ (by show l.length ≤ (hexA l).length; rw [hexA_len]; omega) rfl
theorem hexA_closed (c : UInt8) (hc : Esc.signs7.contains c = true) : ∀ l : List UInt8, closedL c (hexA l) = true
  | [] => rfl
  | b :: t => by
    have h1 := hex_closed c hc (b.toNat / 16) (by have := b.toNat_lt; omega)
    have h2 := hex_closed c hc (b.toNat % 16) (by omega)
    rw [hexA, List.flatMap_cons]
    simp only [Code.hexB, List.cons_append, List.nil_append]
    rw [closed_esc, closed_other c _ h2.1 h2.2]
    exact hexA_closed c hc t
def digL (k v : List UInt8) : List UInt8 := k ++ 61 :: hexA v
theorem dig_closed (c : UInt8) (hc : c = 44 ∨ c = 43) (k v : List UInt8) (ha : typeB k = true) : closedL c (digL k v) = true := by
  unfold digL
  rw [closed_append]
  · rw [closed_other c 61 (by decide) (by rcases hc with rfl | rfl <;> decide)]
    exact hexA_closed c (by rcases hc with rfl | rfl <;> decide) _
  · refine closed_all c _ (fun b hb => ?_)
    have := typeByte_ne b (type_bytes _ ha b hb)
    rcases hc with rfl | rfl
    · exact ⟨this.1, this.2.2.1⟩
    · exact ⟨this.1, this.2.2.2⟩
theorem dig_part (k v : ByteArray) (ha : typeB k.data.toList = true) : partA ⟨(digL k.data.toList v.data.toList).toArray⟩ = some (k, v) := by
  have hn : (61 : UInt8) ∉ k.data.toList := fun h => (typeByte_ne 61 (type_bytes _ ha 61 h)).2.1 rfl
  have hc : Lib.cut (digL k.data.toList v.data.toList) [61] = (k.data.toList, hexA v.data.toList, true) := cut_here 61 _ _ hn
  have hr := hexA_read v.data.toList
  unfold partA
  show (if (Lib.cut (digL k.data.toList v.data.toList) [61]).2.2 = true then (Esc.readL true ⟨(Lib.cut (digL k.data.toList v.data.toList) [61]).2.1.toArray⟩).map (fun z => ((⟨(Lib.cut (digL k.data.toList v.data.toList) [61]).1.toArray⟩, ⟨z.toArray⟩) : Ava)) else none) = some (k, v)
  rw [hc]
  simp only [if_true, hr, Option.map_some]
theorem pieces_one (c : UInt8) (hc : c ≠ 92) (l : List UInt8) (h : closedL c l = true) : piecesL c l = [l] := pieces_join c hc [l] (by simp) (by simpa using h)
theorem dig_parsed (k v : ByteArray) (ha : typeB k.data.toList = true) (hv : v.size ≤ 60) : parsedL (digL k.data.toList v.data.toList) = some [[(k, v)]] := by
  have h1 : rdnOf (digL k.data.toList v.data.toList) = some [(k, v)] := by
    unfold rdnOf
    rw [pieces_one 43 (by decide) _ (dig_closed 43 (.inr rfl) _ _ ha), allM, dig_part k v ha]
    rfl
  have h2 : nameOf (digL k.data.toList v.data.toList) = some [[(k, v)]] := by
    unfold nameOf
    rw [pieces_one 44 (by decide) _ (dig_closed 44 (.inl rfl) _ _ ha), allM, h1]
    rfl
  unfold parsedL
  rw [if_neg (by simp [digL]), h2, Option.bind_some, if_pos (by rw [one_right, avaB, ha, decide_eq_true hv]; rfl)]
variable (p : Nat → Addr)
theorem hex_fn (s : ByteArray) (hs : s.size ≤ 100000000) : Fn Tryz.prog (envX p) 28 [.v (.str s)] (.v (.str ⟨(Code.hexL s.data.toList).toArray⟩)) :=
  Fn.of_plain (enter_of (by kernel_rfl)) rfl fun w L vs hE ha => by
    obtain ⟨v, rfl, h⟩ := one_arg ha
    rw [show v = .string s from h]
    exact Code.hex_calls s w hs
def cut61 (s : ByteArray) : ByteArray := s.extract 0 (min s.size 61)
theorem hex_one (v : ByteArray) (i : Nat) (h : i < v.size) : Code.hexL (v.extract i (i + 1)).data.toList = Code.hexB v[i] := by
  have : (v.extract i (i + 1)).data.toList = [v[i]] := by
    rw [ByteArray.data_extract, Array.toList_extract, List.extract_eq_take_drop, show i + 1 - i = 1 by omega]
    exact (congrArg (List.take 1) (Txt.drop_cons v i h)).trans (by simp)
  rw [this]
  simp [Code.hexL]
set_option maxRecDepth 100000 in
set_option maxHeartbeats 4000000 in
theorem digits_law (s0 t0 : ByteArray) : Fn Tryz.prog (envX p) 9 [.v (.str s0), .v (.str t0)] (.v (.bool true)) := by
  have walk : ∀ (k v : ByteArray), k.size ≤ 61 → v.size ≤ 61 → cut61 s0 = k → cut61 t0 = v → Fn Tryz.prog (envX p) 9 [.v (.str s0), .v (.str t0)] (.v (.bool true)) := fun k v hk hv e1 e2 => by
    have hvl := Txt.size_list v
    have hkl := Txt.size_list k
    have hlen : ∀ j, (digL k.data.toList (v.data.toList.take j)).length ≤ 300 := fun j => by
      rw [digL, List.length_append, List.length_cons, hexA_len, List.length_take]; omega
    have q1 := parse_fn p (mkB (digL k.data.toList v.data.toList)) (by have := hlen v.size; rw [List.take_of_length_le (by omega)] at this; rw [mkB_size]; omega)
    have q2 := type_fn p k
    have sh := shown_fn p
    unfold cut61 at e1 e2
    refine fn_prog tabOk mixed Tryz.f9 Tryz.func9 (by kernel_rfl) (by kernel_rfl) ?_
    conv => whnf
    (refine st_call sh ?_ rfl rfl ?_; (focus ((repeat' (first | exact trivial | exact rfl | exact Or.inl rfl | exact Or.inr ⟨rfl, rfl⟩ | refine And.intro ?_ ?_)); done)); conv => whnf)
    refine st_min 61 ?_
    conv => whnf
    refine st_cut 0 (min s0.size 61) rfl rfl (by omega) (by omega) ?_
    rw [e1]
    conv => whnf
    refine st_min 61 ?_
    conv => whnf
    refine st_cut 0 (min t0.size 61) rfl rfl (by omega) (by omega) ?_
    rw [e2]
    conv => whnf
    refine st_cat (show _ + 1 ≤ _ by omega) rfl ?_
    conv => whnf
    have start : k ++ ⟨#[61]⟩ = mkB (digL k.data.toList (v.data.toList.take 0)) := by
      rw [← Txt.mk_list (k ++ ⟨#[61]⟩)]
      unfold mkB
      congr 2
    refine ⟨Nat, fun j => ⟨76, [(0, .v (.str k)), (1, .v (.str v)), (5, .v (.bool true)), (6, .v (.str (mkB (digL k.data.toList (v.data.toList.take j))))), (7, .v (.int .i64 (j : Nat)))], [], []⟩, fun j => j ≤ v.size, fun j => v.size - j, ⟨0, [], by omega, ⟨rfl, rfl, ⟨.inl rfl, .inl rfl, .inl rfl, .inl (congrArg V.str start), .inl rfl, trivial⟩, trivial, trivial⟩⟩, fun j hj => ?_⟩
    conv => whnf
    refine ⟨rfl, cmp_split (fun h => ?_) (fun h => ?_)⟩
    · have hjl : j < v.size := by omega
      have l1 := hlen j
      have l2 := hlen (j + 1)
      have next : digL k.data.toList (v.data.toList.take j) ++ 92 :: Code.hexB v[j] = digL k.data.toList (v.data.toList.take (j + 1)) := by
        rw [Txt.take_snoc v j hjl, digL, digL, hexA_snoc]; simp
      conv => whnf
      refine st_cat (show _ + 1 ≤ _ by rw [mkB_size]; omega) (mkB_app _ [92]) ?_
      conv => whnf
      refine ⟨rfl, st_succ (by omega) ?_⟩
      conv => whnf
      refine st_cut j (j + 1) rfl rfl (by omega) (by omega) ?_
      have q3 := hex_fn p (v.extract j (j + 1)) (by rw [ByteArray.size_extract]; omega)
      rw [hex_one v j hjl] at q3
      conv => whnf
      (refine st_call q3 ?_ rfl rfl ?_; (focus ((repeat' (first | exact trivial | exact rfl | exact Or.inl rfl | exact Or.inr ⟨rfl, rfl⟩ | refine And.intro ?_ ?_)); done)); conv => whnf)
      refine st_cat (show (digL k.data.toList (v.data.toList.take j) ++ [92]).length + 2 ≤ _ by rw [List.length_append, List.length_singleton]; omega) (show _ = mkB (digL k.data.toList (v.data.toList.take (j + 1))) from (mkB_app _ (Code.hexB v[j])).trans (by rw [← next]; simp)) ?_
      conv => whnf
      refine ⟨rfl, st_succ (by omega) ?_⟩
      conv => whnf
      refine ⟨j + 1, [], by omega, by dsimp only; omega, ?_⟩
      exact ⟨rfl, rfl, ⟨.inl rfl, .inl rfl, .inl rfl, .inl rfl, .inl rfl, trivial⟩, trivial, trivial⟩
    · have hje : j = v.size := by omega
      subst hje
      rw [List.take_of_length_le (by omega)]
      conv => whnf
      (refine st_call q1 ?_ rfl rfl ?_; (focus ((repeat' (first | exact trivial | exact rfl | exact Or.inl rfl | exact Or.inr ⟨rfl, rfl⟩ | refine And.intro ?_ ?_)); done)); conv => whnf)
      have no : ∀ {s : ByteArray}, parsedOk s = false → parsedD s = [] := fun {s} h => by
        unfold parsedOk at h
        unfold parsedD
        cases hp : parsedL s.data.toList with
        | none => rfl
        | some d => rw [hp] at h; cases h
      -- what is not a name of one value
      have rest : (∀ (x : Bool), parsedOk (mkB (digL k.data.toList v.data.toList)) = x → x = true ∨ x = false) := fun x _ => by cases x <;> simp
      generalize hX : parsedOk (mkB (digL k.data.toList v.data.toList)) = ok at q1 ⊢
      generalize hD : parsedD (mkB (digL k.data.toList v.data.toList)) = dd at q1 ⊢
      have hno : ok = false → dd = [] := fun h => by rw [← hD]; exact no (by rw [hX, h])
      cases ht : typeB k.data.toList
      · rw [ht] at q2
        (repeat (first | (refine st_call q2 ?_ rfl rfl ?_; (focus ((repeat' (first | exact trivial | exact rfl | exact Or.inl rfl | exact Or.inr ⟨rfl, rfl⟩ | refine And.intro ?_ ?_)); done)); conv => whnf) | (refine cmp_true rfl ?_; conv => whnf) | (refine ⟨rfl, cmp_true rfl ?_⟩; conv => whnf) | (refine cmp_false ?_ ?_; (focus decide); conv => whnf) | (refine ⟨rfl, cmp_false ?_ ?_⟩; (focus decide); conv => whnf) | (refine ⟨rfl, cmp_true ?_ ?_⟩; (focus decide); conv => whnf) | (refine ⟨rfl, cmp_false (fun h => h rfl) ?_⟩; conv => whnf)))
        cases ok
        · rw [hno rfl]
          (repeat (first | (refine st_call sh ?_ rfl rfl ?_; (focus ((repeat' (first | exact trivial | exact rfl | exact Or.inl rfl | exact Or.inr ⟨rfl, rfl⟩ | refine And.intro ?_ ?_)); done)); conv => whnf) | (refine cmp_true rfl ?_; conv => whnf) | (refine ⟨rfl, cmp_true rfl ?_⟩; conv => whnf) | (refine cmp_false ?_ ?_; (focus decide); conv => whnf) | (refine ⟨rfl, cmp_false ?_ ?_⟩; (focus decide); conv => whnf) | (refine ⟨rfl, cmp_true ?_ ?_⟩; (focus decide); conv => whnf) | (refine ⟨rfl, cmp_false (fun h => h rfl) ?_⟩; conv => whnf)))
          exact ⟨.inl rfl, rfl⟩
        · (repeat (first | (refine st_call sh ?_ rfl rfl ?_; (focus ((repeat' (first | exact trivial | exact rfl | exact Or.inl rfl | exact Or.inr ⟨rfl, rfl⟩ | refine And.intro ?_ ?_)); done)); conv => whnf) | (refine cmp_true rfl ?_; conv => whnf) | (refine ⟨rfl, cmp_true rfl ?_⟩; conv => whnf) | (refine cmp_false ?_ ?_; (focus decide); conv => whnf) | (refine ⟨rfl, cmp_false ?_ ?_⟩; (focus decide); conv => whnf) | (refine ⟨rfl, cmp_true ?_ ?_⟩; (focus decide); conv => whnf) | (refine ⟨rfl, cmp_false (fun h => h rfl) ?_⟩; conv => whnf)))
          exact ⟨.inl rfl, rfl⟩
      · rw [ht] at q2
        (refine st_call q2 ?_ rfl rfl ?_; (focus ((repeat' (first | exact trivial | exact rfl | exact Or.inl rfl | exact Or.inr ⟨rfl, rfl⟩ | refine And.intro ?_ ?_)); done)); conv => whnf)
        by_cases hv6 : 60 < v.size
        · refine ⟨rfl, cmp_true (by omega) ?_⟩
          conv => whnf
          cases ok
          · rw [hno rfl]
            (repeat (first | (refine st_call sh ?_ rfl rfl ?_; (focus ((repeat' (first | exact trivial | exact rfl | exact Or.inl rfl | exact Or.inr ⟨rfl, rfl⟩ | refine And.intro ?_ ?_)); done)); conv => whnf) | (refine cmp_true rfl ?_; conv => whnf) | (refine ⟨rfl, cmp_true rfl ?_⟩; conv => whnf) | (refine cmp_false ?_ ?_; (focus decide); conv => whnf) | (refine ⟨rfl, cmp_false ?_ ?_⟩; (focus decide); conv => whnf) | (refine ⟨rfl, cmp_true ?_ ?_⟩; (focus decide); conv => whnf) | (refine ⟨rfl, cmp_false (fun h => h rfl) ?_⟩; conv => whnf)))
            exact ⟨.inl rfl, rfl⟩
          · (repeat (first | (refine st_call sh ?_ rfl rfl ?_; (focus ((repeat' (first | exact trivial | exact rfl | exact Or.inl rfl | exact Or.inr ⟨rfl, rfl⟩ | refine And.intro ?_ ?_)); done)); conv => whnf) | (refine cmp_true rfl ?_; conv => whnf) | (refine ⟨rfl, cmp_true rfl ?_⟩; conv => whnf) | (refine cmp_false ?_ ?_; (focus decide); conv => whnf) | (refine ⟨rfl, cmp_false ?_ ?_⟩; (focus decide); conv => whnf) | (refine ⟨rfl, cmp_true ?_ ?_⟩; (focus decide); conv => whnf) | (refine ⟨rfl, cmp_false (fun h => h rfl) ?_⟩; conv => whnf)))
            exact ⟨.inl rfl, rfl⟩
        · refine ⟨rfl, cmp_false (by omega) ?_⟩
          have hp := parsed_of (s := mkB (digL k.data.toList v.data.toList)) (d := [[(k, v)]]) (by rw [mkB_list]; exact dig_parsed k v ht (by omega))
          rw [hp.1] at hD
          rw [hp.2.1] at hX
          subst hD
          subst hX
          have q4 := same_fn p [[(k, v)]] [[(k, v)]] ⟨by simp, by simp⟩
          rw [decide_eq_true rfl] at q4
          conv => whnf
          (repeat (first | (refine st_call q4 ?_ rfl rfl ?_; (focus ((repeat' (first | exact trivial | exact rfl | exact Or.inl rfl | exact Or.inr ⟨rfl, rfl⟩ | refine And.intro ?_ ?_)); done)); conv => whnf) | (refine cmp_true rfl ?_; conv => whnf) | (refine ⟨rfl, cmp_true rfl ?_⟩; conv => whnf) | (refine cmp_false ?_ ?_; (focus decide); conv => whnf) | (refine ⟨rfl, cmp_false ?_ ?_⟩; (focus decide); conv => whnf) | (refine ⟨rfl, cmp_true ?_ ?_⟩; (focus decide); conv => whnf) | (refine ⟨rfl, cmp_false (fun h => h rfl) ?_⟩; conv => whnf)))
          exact ⟨.inl rfl, rfl⟩
  exact walk _ _ (by simp [cut61]; omega) (by simp [cut61]; omega) rfl rfl
end Go.Proofs.YtjmpkbmgcbalkaaGreatDoor.Dn
