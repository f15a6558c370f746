/- Several texts, one behind the other. dn's law DnBack: what is read, printed, is read alike. No conditions. dn's laws DnParents, DnJoins and DnValues. No conditions. dn's laws DnParents and DnValues. No conditions. -/
import Derived.Test.YtjmpkbmgcbalkaaGreatDoorM22
/- dn's law DnBack: what is read, printed, is read alike. No conditions. -/
namespace Go.Proofs.YtjmpkbmgcbalkaaGreatDoor.Dn
open Go.RowKit
set_option linter.unusedVariables false
variable (p : Nat → Addr)
theorem right_row {d : Name} (h : rightB d = true) : d.length ≤ 8 ∧ ∀ r ∈ d, rdnB r = true := by
  unfold rightB at h
  simp only [Bool.and_eq_true, decide_eq_true_eq] at h
  exact ⟨h.1, List.all_eq_true.1 h.2⟩
theorem right_mk {d : Name} (h1 : d.length ≤ 8) (h2 : ∀ r ∈ d, rdnB r = true) : rightB d = true := by
  unfold rightB
  simp only [Bool.and_eq_true, decide_eq_true_eq]
  exact ⟨h1, List.all_eq_true.2 h2⟩
theorem right_len {d : Name} (h : rightB d = true) : (nameL d).length ≤ 5000 := by
  obtain ⟨h1, h2⟩ := right_row h
  have hr : ∀ r ∈ d, (rdnL r).length ≤ 606 := fun r hr => by
    have h3 := h2 r hr
    unfold rdnB at h3
    simp only [Bool.and_eq_true, decide_eq_true_eq] at h3
    have h4 := joinC_len 43 201 (r.map avaL) (fun x hx => by
      obtain ⟨a, ha, rfl⟩ := List.mem_map.1 hx
      have h5 := List.all_eq_true.1 h3.2.2 a ha
      unfold avaB typeB at h5
      simp only [Bool.and_eq_true, decide_eq_true_eq] at h5
      have h6 := Esc.outF_len (Esc.nameR a.2.size) a.2.data.toList 0
      have h7 := Txt.size_list a.2
      simp only [avaL, List.length_append, List.length_cons]
      omega)
    rw [List.length_map] at h4
    have := Nat.mul_le_mul_right (201 + 1) h3.2.1
    unfold rdnL
    omega
  have h4 := joinC_len 44 606 (d.map rdnL) (fun x hx => by obtain ⟨r, h5, rfl⟩ := List.mem_map.1 hx; exact hr r h5)
  rw [List.length_map] at h4
  have := Nat.mul_le_mul_right (606 + 1) h1
  unfold nameL
  omega
theorem parsed_of {s : ByteArray} {d : Name} (h : parsedL s.data.toList = some d) : parsedD s = d ∧ parsedOk s = true ∧ canonB s = mkB (nameL d) := by
  have h2 : parsedOk s = true := by unfold parsedOk; rw [h]; rfl
  have h1 : parsedD s = d := by unfold parsedD; rw [h]; rfl
  exact ⟨h1, h2, by unfold canonB; rw [if_pos h2, h1]⟩
theorem parsed_no {s : ByteArray} (h : parsedL s.data.toList = none) : parsedD s = [] ∧ parsedOk s = false ∧ canonB s = ⟨#[]⟩ := by
  have h2 : parsedOk s = false := by unfold parsedOk; rw [h]; rfl
  have h1 : parsedD s = [] := by unfold parsedD; rw [h]; rfl
  exact ⟨h1, h2, by unfold canonB; rw [if_neg (by rw [h2]; decide)]⟩
theorem cutS_size (s : ByteArray) : (cutS s).size ≤ 300 := by simp [cutS]; omega
set_option maxRecDepth 100000 in
set_option maxHeartbeats 4000000 in
theorem back_law (x0 : Name) (s0 : ByteArray) : Fn Tryz.prog (envX p) 4 [.v (vName x0), .v (.str s0)] (.v (.bool true)) := by
  have c1 := cut_fn (envX p) x0
  have c2 := cutS_fn (envX p) s0
  have sx := cut_small x0
  have ss := cutS_size s0
  generalize cutName x0 = x at *
  generalize cutS s0 = s at *
  have q1 := print_fn p x
  have q3 := parse_fn p s (by omega)
  have q4 := canon_fn p s (by omega)
  have q5 := right_fn p x
  have q6 := same_fn p x x sx.ok
  rw [decide_eq_true rfl] at q6
  -- what is printed, read
  have q2 : Fn Tryz.prog (envX p) 15 [.v (.str (printedB x))] (.tup [.v (vName (if rightB x = true then x else [])), .v (.int .i64 0)]) := by
    unfold printedB
    cases hr : rightB x with
    | true =>
      have hl : parsedL (mkB (nameL x)).data.toList = some x := by rw [mkB_list]; exact parse_print x hr
      have := parse_fn p (mkB (nameL x)) (by rw [mkB_size]; have := right_len hr; omega)
      rw [(parsed_of hl).1, (parsed_of hl).2.1] at this
      exact this
    | false => exact parse_fn p ⟨#[]⟩ (by decide)
  -- what is read, printed and read
  have q7 : ∀ d, parsedL s.data.toList = some d → Fn Tryz.prog (envX p) 15 [.v (.str (mkB (nameL d)))] (.tup [.v (vName d), .v (.int .i64 0)]) ∧ Fn Tryz.prog (envX p) 17 [.v (.str (mkB (nameL d)))] (.tup [.v (.str (mkB (nameL d))), .v (.int .i64 0)]) ∧ Fn Tryz.prog (envX p) 19 [.v (vName d)] (.v (.bool true)) ∧ Fn Tryz.prog (envX p) 21 [.v (vName d), .v (vName d)] (.v (.bool true)) := fun d hd => by
    have hr := parsed_right _ _ hd
    have hl : parsedL (mkB (nameL d)).data.toList = some d := by rw [mkB_list]; exact parse_print d hr
    have hz : (mkB (nameL d)).size ≤ 1000000 := by rw [mkB_size]; have := right_len hr; omega
    have e1 := parse_fn p (mkB (nameL d)) hz
    have e2 := canon_fn p (mkB (nameL d)) hz
    have e3 := right_fn p d
    have e4 := same_fn p d d (right_small hr).ok
    rw [(parsed_of hl).1, (parsed_of hl).2.1] at e1
    rw [(parsed_of hl).2.2, (parsed_of hl).2.1] at e2
    rw [hr] at e3
    rw [decide_eq_true rfl] at e4
    exact ⟨e1, e2, e3, e4⟩
  have q8 := parse_fn p ⟨#[]⟩ (by decide)
  have q9 := canon_fn p ⟨#[]⟩ (by decide)
  change Fn _ _ _ _ (.tup [.v (vName []), .v (.int .i64 0)]) at q8
  change Fn _ _ _ _ (.tup [.v (.str ⟨#[]⟩), .v (.int .i64 0)]) at q9
  have sh := shown_fn p
  cases hr : rightB x
  all_goals cases hd : parsedL s.data.toList with
  | none =>
    rw [hr] at q1 q2 q5
    rw [(parsed_no hd).1, (parsed_no hd).2.1] at q3
    rw [(parsed_no hd).2.2, (parsed_no hd).2.1] at q4
    refine fn_prog tabOk mixed Tryz.f4 Tryz.func4 (by kernel_rfl) (by kernel_rfl) ?_
    conv => whnf
    (repeat (first | (refine st_call sh ?_ rfl rfl ?_; (focus ((repeat' (first | exact trivial | exact rfl | exact Or.inl rfl | exact Or.inr ⟨rfl, rfl⟩ | refine And.intro ?_ ?_)); done)); conv => whnf) | (refine st_call c1 ?_ rfl rfl ?_; (focus ((repeat' (first | exact trivial | exact rfl | exact Or.inl rfl | exact Or.inr ⟨rfl, rfl⟩ | refine And.intro ?_ ?_)); done)); conv => whnf) | (refine st_call c2 ?_ rfl rfl ?_; (focus ((repeat' (first | exact trivial | exact rfl | exact Or.inl rfl | exact Or.inr ⟨rfl, rfl⟩ | refine And.intro ?_ ?_)); done)); conv => whnf) | (refine st_call q1 ?_ rfl rfl ?_; (focus ((repeat' (first | exact trivial | exact rfl | exact Or.inl rfl | exact Or.inr ⟨rfl, rfl⟩ | refine And.intro ?_ ?_)); done)); conv => whnf) | (refine st_call q2 ?_ rfl rfl ?_; (focus ((repeat' (first | exact trivial | exact rfl | exact Or.inl rfl | exact Or.inr ⟨rfl, rfl⟩ | refine And.intro ?_ ?_)); done)); conv => whnf) | (refine st_call q3 ?_ rfl rfl ?_; (focus ((repeat' (first | exact trivial | exact rfl | exact Or.inl rfl | exact Or.inr ⟨rfl, rfl⟩ | refine And.intro ?_ ?_)); done)); conv => whnf) | (refine st_call q4 ?_ rfl rfl ?_; (focus ((repeat' (first | exact trivial | exact rfl | exact Or.inl rfl | exact Or.inr ⟨rfl, rfl⟩ | refine And.intro ?_ ?_)); done)); conv => whnf) | (refine st_call q5 ?_ rfl rfl ?_; (focus ((repeat' (first | exact trivial | exact rfl | exact Or.inl rfl | exact Or.inr ⟨rfl, rfl⟩ | refine And.intro ?_ ?_)); done)); conv => whnf) | (refine st_call q6 ?_ rfl rfl ?_; (focus ((repeat' (first | exact trivial | exact rfl | exact Or.inl rfl | exact Or.inr ⟨rfl, rfl⟩ | refine And.intro ?_ ?_)); done)); conv => whnf) | (refine st_call q8 ?_ rfl rfl ?_; (focus ((repeat' (first | exact trivial | exact rfl | exact Or.inl rfl | exact Or.inr ⟨rfl, rfl⟩ | refine And.intro ?_ ?_)); done)); conv => whnf) | (refine st_call q9 ?_ rfl rfl ?_; (focus ((repeat' (first | exact trivial | exact rfl | exact Or.inl rfl | exact Or.inr ⟨rfl, rfl⟩ | refine And.intro ?_ ?_)); done)); conv => whnf) | (refine cmp_true rfl ?_; conv => whnf) | (refine ⟨rfl, cmp_true rfl ?_⟩; conv => whnf) | (refine cmp_false ?_ ?_; (focus decide); conv => whnf) | (refine ⟨rfl, cmp_false ?_ ?_⟩; (focus decide); conv => whnf) | (refine ⟨rfl, cmp_true ?_ ?_⟩; (focus decide); conv => whnf) | (refine ⟨rfl, cmp_false (fun h => h rfl) ?_⟩; conv => whnf)))
    exact ⟨.inl rfl, rfl⟩
  | some d =>
    obtain ⟨w1, w2, w3, w4⟩ := q7 d hd
    rw [hr] at q1 q2 q5
    rw [(parsed_of hd).1, (parsed_of hd).2.1] at q3
    rw [(parsed_of hd).2.2, (parsed_of hd).2.1] at q4
    refine fn_prog tabOk mixed Tryz.f4 Tryz.func4 (by kernel_rfl) (by kernel_rfl) ?_
    conv => whnf
    (repeat (first | (refine st_call sh ?_ rfl rfl ?_; (focus ((repeat' (first | exact trivial | exact rfl | exact Or.inl rfl | exact Or.inr ⟨rfl, rfl⟩ | refine And.intro ?_ ?_)); done)); conv => whnf) | (refine st_call c1 ?_ rfl rfl ?_; (focus ((repeat' (first | exact trivial | exact rfl | exact Or.inl rfl | exact Or.inr ⟨rfl, rfl⟩ | refine And.intro ?_ ?_)); done)); conv => whnf) | (refine st_call c2 ?_ rfl rfl ?_; (focus ((repeat' (first | exact trivial | exact rfl | exact Or.inl rfl | exact Or.inr ⟨rfl, rfl⟩ | refine And.intro ?_ ?_)); done)); conv => whnf) | (refine st_call q1 ?_ rfl rfl ?_; (focus ((repeat' (first | exact trivial | exact rfl | exact Or.inl rfl | exact Or.inr ⟨rfl, rfl⟩ | refine And.intro ?_ ?_)); done)); conv => whnf) | (refine st_call q2 ?_ rfl rfl ?_; (focus ((repeat' (first | exact trivial | exact rfl | exact Or.inl rfl | exact Or.inr ⟨rfl, rfl⟩ | refine And.intro ?_ ?_)); done)); conv => whnf) | (refine st_call q3 ?_ rfl rfl ?_; (focus ((repeat' (first | exact trivial | exact rfl | exact Or.inl rfl | exact Or.inr ⟨rfl, rfl⟩ | refine And.intro ?_ ?_)); done)); conv => whnf) | (refine st_call q4 ?_ rfl rfl ?_; (focus ((repeat' (first | exact trivial | exact rfl | exact Or.inl rfl | exact Or.inr ⟨rfl, rfl⟩ | refine And.intro ?_ ?_)); done)); conv => whnf) | (refine st_call q5 ?_ rfl rfl ?_; (focus ((repeat' (first | exact trivial | exact rfl | exact Or.inl rfl | exact Or.inr ⟨rfl, rfl⟩ | refine And.intro ?_ ?_)); done)); conv => whnf) | (refine st_call q6 ?_ rfl rfl ?_; (focus ((repeat' (first | exact trivial | exact rfl | exact Or.inl rfl | exact Or.inr ⟨rfl, rfl⟩ | refine And.intro ?_ ?_)); done)); conv => whnf) | (refine st_call w1 ?_ rfl rfl ?_; (focus ((repeat' (first | exact trivial | exact rfl | exact Or.inl rfl | exact Or.inr ⟨rfl, rfl⟩ | refine And.intro ?_ ?_)); done)); conv => whnf) | (refine st_call w2 ?_ rfl rfl ?_; (focus ((repeat' (first | exact trivial | exact rfl | exact Or.inl rfl | exact Or.inr ⟨rfl, rfl⟩ | refine And.intro ?_ ?_)); done)); conv => whnf) | (refine st_call w3 ?_ rfl rfl ?_; (focus ((repeat' (first | exact trivial | exact rfl | exact Or.inl rfl | exact Or.inr ⟨rfl, rfl⟩ | refine And.intro ?_ ?_)); done)); conv => whnf) | (refine st_call w4 ?_ rfl rfl ?_; (focus ((repeat' (first | exact trivial | exact rfl | exact Or.inl rfl | exact Or.inr ⟨rfl, rfl⟩ | refine And.intro ?_ ?_)); done)); conv => whnf) | (refine cmp_true rfl ?_; conv => whnf) | (refine ⟨rfl, cmp_true rfl ?_⟩; conv => whnf) | (refine cmp_false ?_ ?_; (focus decide); conv => whnf) | (refine ⟨rfl, cmp_false ?_ ?_⟩; (focus decide); conv => whnf) | (refine ⟨rfl, cmp_true ?_ ?_⟩; (focus decide); conv => whnf) | (refine ⟨rfl, cmp_false (fun h => h rfl) ?_⟩; conv => whnf)))
    exact ⟨.inl rfl, rfl⟩
end Go.Proofs.YtjmpkbmgcbalkaaGreatDoor.Dn
/- dn's laws DnParents, DnJoins and DnValues. No conditions. -/
namespace Go.Proofs.YtjmpkbmgcbalkaaGreatDoor.Dn
open Go.RowKit
set_option linter.unusedVariables false
variable (p : Nat → Addr)
theorem nameL_cons (r : Rdn) (d : Name) (h : d ≠ []) : nameL (r :: d) = rdnL r ++ 44 :: nameL d := by
  obtain ⟨a, t, rfl⟩ : ∃ a t, d = a :: t := by cases d with
    | nil => exact absurd rfl h
    | cons a t => exact ⟨a, t, rfl⟩
  rfl
theorem nameL_append : ∀ (d e : Name), d ≠ [] → e ≠ [] → nameL (d ++ e) = nameL d ++ 44 :: nameL e
  | [], _, h, _ => absurd rfl h
  | [r], e, _, h => nameL_cons r e h
  | r :: a :: t, e, _, h => by
    rw [List.cons_append, nameL_cons _ _ (by simp), nameL_append (a :: t) e (by simp) h, nameL_cons r (a :: t) (by simp)]
    simp
theorem rightB_append {x y : Name} (h : rightB (x ++ y) = true) : rightB x = true ∧ rightB y = true := by
  obtain ⟨h1, h2⟩ := right_row h
  rw [List.length_append] at h1
  exact ⟨right_mk (by omega) fun r hr => h2 r (List.mem_append_left _ hr), right_mk (by omega) fun r hr => h2 r (List.mem_append_right _ hr)⟩
theorem rightB_both {x y : Name} (h1 : rightB x = true) (h2 : rightB y = true) : rightB (x ++ y) = decide ((x ++ y).length ≤ 8) := by
  rw [Bool.eq_iff_iff, decide_eq_true_eq]
  exact ⟨fun h => (right_row h).1, fun h => right_mk h fun r hr => (List.mem_append.1 hr).elim ((right_row h1).2 r) ((right_row h2).2 r)⟩
theorem mkB_app (a b : List UInt8) : mkB a ++ mkB b = mkB (a ++ b) := by
  apply ByteArray.ext
  simp [mkB]
theorem len_ne {α : Type} {f : α → List V} {l : List α} (h : l ≠ []) : ¬ ((l.map f).length : Int) = 0 := fun e => h (by simpa using e)
set_option maxRecDepth 100000 in
set_option maxHeartbeats 4000000 in
theorem joins_law (x0 y0 : Name) : Fn Tryz.prog (envX p) 6 [.v (vName x0), .v (vName y0)] (.v (.bool true)) := by
  have c1 := cut_fn (envX p) x0
  have c2 := cut_fn (envX p) y0
  have sx := cut_small x0
  have sy := cut_small y0
  generalize cutName x0 = x at *
  generalize cutName y0 = y at *
  have hlx := sx.len
  have hly := sy.len
  have q1 := print_fn p x
  have q2 := print_fn p y
  have q3 := print_fn p (x ++ y)
  have sh := shown_fn p
  -- one of them is not right
  have no : rightB (x ++ y) = false → (rightB x = false ∨ rightB y = false) → Fn Tryz.prog (envX p) 6 [.v (vName x0), .v (vName y0)] (.v (.bool true)) := fun h3 hxy => by
    have q4 : Fn Tryz.prog (envX p) 13 [.v (vName (x ++ y))] (.tup [.v (.str ⟨#[]⟩), .v (.int .i64 70)]) := by
      unfold printedB at q3
      rw [h3] at q3
      exact q3
    refine fn_prog tabOk mixed Tryz.f6 Tryz.func6 (by kernel_rfl) (by kernel_rfl) ?_
    conv => whnf
    (repeat (first | (refine st_call sh ?_ rfl rfl ?_; (focus ((repeat' (first | exact trivial | exact rfl | exact Or.inl rfl | exact Or.inr ⟨rfl, rfl⟩ | refine And.intro ?_ ?_)); done)); conv => whnf) | (refine st_call c1 ?_ rfl rfl ?_; (focus ((repeat' (first | exact trivial | exact rfl | exact Or.inl rfl | exact Or.inr ⟨rfl, rfl⟩ | refine And.intro ?_ ?_)); done)); conv => whnf) | (refine st_call c2 ?_ rfl rfl ?_; (focus ((repeat' (first | exact trivial | exact rfl | exact Or.inl rfl | exact Or.inr ⟨rfl, rfl⟩ | refine And.intro ?_ ?_)); done)); conv => whnf) | (refine st_call q1 ?_ rfl rfl ?_; (focus ((repeat' (first | exact trivial | exact rfl | exact Or.inl rfl | exact Or.inr ⟨rfl, rfl⟩ | refine And.intro ?_ ?_)); done)); conv => whnf) | (refine st_call q2 ?_ rfl rfl ?_; (focus ((repeat' (first | exact trivial | exact rfl | exact Or.inl rfl | exact Or.inr ⟨rfl, rfl⟩ | refine And.intro ?_ ?_)); done)); conv => whnf) | (refine cmp_true rfl ?_; conv => whnf) | (refine ⟨rfl, cmp_true rfl ?_⟩; conv => whnf) | (refine cmp_false ?_ ?_; (focus decide); conv => whnf) | (refine ⟨rfl, cmp_false ?_ ?_⟩; (focus decide); conv => whnf) | (refine ⟨rfl, cmp_true ?_ ?_⟩; (focus decide); conv => whnf) | (refine ⟨rfl, cmp_false (fun h => h rfl) ?_⟩; conv => whnf)))
    refine ⟨by rw [List.length_map]; omega, by simp [cRdn], ?_⟩
    conv => whnf
    refine st_app (zs := (x ++ y).map cRdn) (by simp; omega) (by simp [cRdn]) (List.map_append ..).symm ?_
    conv => whnf
    (refine st_call q4 ?_ rfl rfl ?_; (focus ((repeat' (first | exact trivial | exact rfl | exact Or.inl rfl | exact Or.inr ⟨rfl, rfl⟩ | refine And.intro ?_ ?_)); done)); conv => whnf)
    rcases hxy with h | h
    · rw [h]
      (repeat (first | (refine st_call sh ?_ rfl rfl ?_; (focus ((repeat' (first | exact trivial | exact rfl | exact Or.inl rfl | exact Or.inr ⟨rfl, rfl⟩ | refine And.intro ?_ ?_)); done)); conv => whnf) | (refine cmp_true rfl ?_; conv => whnf) | (refine ⟨rfl, cmp_true rfl ?_⟩; conv => whnf) | (refine cmp_false ?_ ?_; (focus decide); conv => whnf) | (refine ⟨rfl, cmp_false ?_ ?_⟩; (focus decide); conv => whnf) | (refine ⟨rfl, cmp_true ?_ ?_⟩; (focus decide); conv => whnf) | (refine ⟨rfl, cmp_false (fun h => h rfl) ?_⟩; conv => whnf)))
      exact ⟨.inl rfl, rfl⟩
    · rw [h]
      cases rightB x <;> ((repeat (first | (refine st_call sh ?_ rfl rfl ?_; (focus ((repeat' (first | exact trivial | exact rfl | exact Or.inl rfl | exact Or.inr ⟨rfl, rfl⟩ | refine And.intro ?_ ?_)); done)); conv => whnf) | (refine cmp_true rfl ?_; conv => whnf) | (refine ⟨rfl, cmp_true rfl ?_⟩; conv => whnf) | (refine cmp_false ?_ ?_; (focus decide); conv => whnf) | (refine ⟨rfl, cmp_false ?_ ?_⟩; (focus decide); conv => whnf) | (refine ⟨rfl, cmp_true ?_ ?_⟩; (focus decide); conv => whnf) | (refine ⟨rfl, cmp_false (fun h => h rfl) ?_⟩; conv => whnf))); exact ⟨.inl rfl, rfl⟩)
  cases hx : rightB x
  · exact no (by cases h : rightB (x ++ y) with
      | false => rfl
      | true => rw [(rightB_append h).1] at hx; cases hx) (.inl hx)
  cases hy : rightB y
  · exact no (by cases h : rightB (x ++ y) with
      | false => rfl
      | true => rw [(rightB_append h).2] at hy; cases hy) (.inr hy)
  have hb := rightB_both hx hy
  have px : printedB x = mkB (nameL x) := by unfold printedB; rw [if_pos hx]
  have py : printedB y = mkB (nameL y) := by unfold printedB; rw [if_pos hy]
  rw [px, hx] at q1
  rw [py, hy] at q2
  have lx := right_len hx
  have ly := right_len hy
  by_cases hn : x = []
  · subst hn
    have q4 : Fn Tryz.prog (envX p) 13 [.v (vName ([] ++ y))] (.tup [.v (.str (mkB (nameL y))), .v (.int .i64 0)]) := by
      rw [List.nil_append] at q3 ⊢
      rw [py, hy] at q3
      exact q3
    refine fn_prog tabOk mixed Tryz.f6 Tryz.func6 (by kernel_rfl) (by kernel_rfl) ?_
    conv => whnf
    (repeat (first | (refine st_call sh ?_ rfl rfl ?_; (focus ((repeat' (first | exact trivial | exact rfl | exact Or.inl rfl | exact Or.inr ⟨rfl, rfl⟩ | refine And.intro ?_ ?_)); done)); conv => whnf) | (refine st_call c1 ?_ rfl rfl ?_; (focus ((repeat' (first | exact trivial | exact rfl | exact Or.inl rfl | exact Or.inr ⟨rfl, rfl⟩ | refine And.intro ?_ ?_)); done)); conv => whnf) | (refine st_call c2 ?_ rfl rfl ?_; (focus ((repeat' (first | exact trivial | exact rfl | exact Or.inl rfl | exact Or.inr ⟨rfl, rfl⟩ | refine And.intro ?_ ?_)); done)); conv => whnf) | (refine st_call q1 ?_ rfl rfl ?_; (focus ((repeat' (first | exact trivial | exact rfl | exact Or.inl rfl | exact Or.inr ⟨rfl, rfl⟩ | refine And.intro ?_ ?_)); done)); conv => whnf) | (refine st_call q2 ?_ rfl rfl ?_; (focus ((repeat' (first | exact trivial | exact rfl | exact Or.inl rfl | exact Or.inr ⟨rfl, rfl⟩ | refine And.intro ?_ ?_)); done)); conv => whnf) | (refine cmp_true rfl ?_; conv => whnf) | (refine ⟨rfl, cmp_true rfl ?_⟩; conv => whnf) | (refine cmp_false ?_ ?_; (focus decide); conv => whnf) | (refine ⟨rfl, cmp_false ?_ ?_⟩; (focus decide); conv => whnf) | (refine ⟨rfl, cmp_true ?_ ?_⟩; (focus decide); conv => whnf) | (refine ⟨rfl, cmp_false (fun h => h rfl) ?_⟩; conv => whnf)))
    refine ⟨by rw [List.length_map]; omega, by simp [cRdn], ?_⟩
    conv => whnf
    refine st_app (zs := ([] ++ y).map cRdn) (by simp; omega) (by simp [cRdn]) (List.map_append ..).symm ?_
    conv => whnf
    (refine st_call q4 ?_ rfl rfl ?_; (focus ((repeat' (first | exact trivial | exact rfl | exact Or.inl rfl | exact Or.inr ⟨rfl, rfl⟩ | refine And.intro ?_ ?_)); done)); conv => whnf)
    (repeat (first | (refine st_call sh ?_ rfl rfl ?_; (focus ((repeat' (first | exact trivial | exact rfl | exact Or.inl rfl | exact Or.inr ⟨rfl, rfl⟩ | refine And.intro ?_ ?_)); done)); conv => whnf) | (refine cmp_true rfl ?_; conv => whnf) | (refine ⟨rfl, cmp_true rfl ?_⟩; conv => whnf) | (refine cmp_false ?_ ?_; (focus decide); conv => whnf) | (refine ⟨rfl, cmp_false ?_ ?_⟩; (focus decide); conv => whnf) | (refine ⟨rfl, cmp_true ?_ ?_⟩; (focus decide); conv => whnf) | (refine ⟨rfl, cmp_false (fun h => h rfl) ?_⟩; conv => whnf)))
    refine st_cat (by simp only [mkB_size]; omega) (mkB_app _ _) ?_
    conv => whnf
    (repeat (first | (refine st_call sh ?_ rfl rfl ?_; (focus ((repeat' (first | exact trivial | exact rfl | exact Or.inl rfl | exact Or.inr ⟨rfl, rfl⟩ | refine And.intro ?_ ?_)); done)); conv => whnf) | (refine cmp_true rfl ?_; conv => whnf) | (refine ⟨rfl, cmp_true rfl ?_⟩; conv => whnf) | (refine cmp_false ?_ ?_; (focus decide); conv => whnf) | (refine ⟨rfl, cmp_false ?_ ?_⟩; (focus decide); conv => whnf) | (refine ⟨rfl, cmp_true ?_ ?_⟩; (focus decide); conv => whnf) | (refine ⟨rfl, cmp_false (fun h => h rfl) ?_⟩; conv => whnf)))
    exact ⟨.inl rfl, rfl⟩
  by_cases hm : y = []
  · subst hm
    have q4 : Fn Tryz.prog (envX p) 13 [.v (vName (x ++ []))] (.tup [.v (.str (mkB (nameL x))), .v (.int .i64 0)]) := by
      rw [List.append_nil] at q3 ⊢
      rw [px, hx] at q3
      exact q3
    refine fn_prog tabOk mixed Tryz.f6 Tryz.func6 (by kernel_rfl) (by kernel_rfl) ?_
    conv => whnf
    (repeat (first | (refine st_call sh ?_ rfl rfl ?_; (focus ((repeat' (first | exact trivial | exact rfl | exact Or.inl rfl | exact Or.inr ⟨rfl, rfl⟩ | refine And.intro ?_ ?_)); done)); conv => whnf) | (refine st_call c1 ?_ rfl rfl ?_; (focus ((repeat' (first | exact trivial | exact rfl | exact Or.inl rfl | exact Or.inr ⟨rfl, rfl⟩ | refine And.intro ?_ ?_)); done)); conv => whnf) | (refine st_call c2 ?_ rfl rfl ?_; (focus ((repeat' (first | exact trivial | exact rfl | exact Or.inl rfl | exact Or.inr ⟨rfl, rfl⟩ | refine And.intro ?_ ?_)); done)); conv => whnf) | (refine st_call q1 ?_ rfl rfl ?_; (focus ((repeat' (first | exact trivial | exact rfl | exact Or.inl rfl | exact Or.inr ⟨rfl, rfl⟩ | refine And.intro ?_ ?_)); done)); conv => whnf) | (refine st_call q2 ?_ rfl rfl ?_; (focus ((repeat' (first | exact trivial | exact rfl | exact Or.inl rfl | exact Or.inr ⟨rfl, rfl⟩ | refine And.intro ?_ ?_)); done)); conv => whnf) | (refine cmp_true rfl ?_; conv => whnf) | (refine ⟨rfl, cmp_true rfl ?_⟩; conv => whnf) | (refine cmp_false ?_ ?_; (focus decide); conv => whnf) | (refine ⟨rfl, cmp_false ?_ ?_⟩; (focus decide); conv => whnf) | (refine ⟨rfl, cmp_true ?_ ?_⟩; (focus decide); conv => whnf) | (refine ⟨rfl, cmp_false (fun h => h rfl) ?_⟩; conv => whnf)))
    refine ⟨by rw [List.length_map]; omega, by simp [cRdn], ?_⟩
    conv => whnf
    refine st_app (zs := (x ++ []).map cRdn) (by simp; omega) (by simp [cRdn]) (List.map_append ..).symm ?_
    conv => whnf
    (refine st_call q4 ?_ rfl rfl ?_; (focus ((repeat' (first | exact trivial | exact rfl | exact Or.inl rfl | exact Or.inr ⟨rfl, rfl⟩ | refine And.intro ?_ ?_)); done)); conv => whnf)
    (repeat (first | (refine st_call sh ?_ rfl rfl ?_; (focus ((repeat' (first | exact trivial | exact rfl | exact Or.inl rfl | exact Or.inr ⟨rfl, rfl⟩ | refine And.intro ?_ ?_)); done)); conv => whnf) | (refine cmp_true rfl ?_; conv => whnf) | (refine ⟨rfl, cmp_true rfl ?_⟩; conv => whnf) | (refine cmp_false ?_ ?_; (focus decide); conv => whnf) | (refine ⟨rfl, cmp_false ?_ ?_⟩; (focus decide); conv => whnf) | (refine ⟨rfl, cmp_true ?_ ?_⟩; (focus decide); conv => whnf) | (refine ⟨rfl, cmp_false (fun h => h rfl) ?_⟩; conv => whnf)))
    refine ⟨rfl, cmp_false (len_ne hn) ?_⟩
    conv => whnf
    (repeat (first | (refine st_call sh ?_ rfl rfl ?_; (focus ((repeat' (first | exact trivial | exact rfl | exact Or.inl rfl | exact Or.inr ⟨rfl, rfl⟩ | refine And.intro ?_ ?_)); done)); conv => whnf) | (refine cmp_true rfl ?_; conv => whnf) | (refine ⟨rfl, cmp_true rfl ?_⟩; conv => whnf) | (refine cmp_false ?_ ?_; (focus decide); conv => whnf) | (refine ⟨rfl, cmp_false ?_ ?_⟩; (focus decide); conv => whnf) | (refine ⟨rfl, cmp_true ?_ ?_⟩; (focus decide); conv => whnf) | (refine ⟨rfl, cmp_false (fun h => h rfl) ?_⟩; conv => whnf)))
    refine st_cat (by simp only [mkB_size]; omega) (mkB_app _ _) ?_
    conv => whnf
    rw [show nameL x ++ nameL [] = nameL x from List.append_nil _]
    (repeat (first | (refine st_call sh ?_ rfl rfl ?_; (focus ((repeat' (first | exact trivial | exact rfl | exact Or.inl rfl | exact Or.inr ⟨rfl, rfl⟩ | refine And.intro ?_ ?_)); done)); conv => whnf) | (refine cmp_true rfl ?_; conv => whnf) | (refine ⟨rfl, cmp_true rfl ?_⟩; conv => whnf) | (refine cmp_false ?_ ?_; (focus decide); conv => whnf) | (refine ⟨rfl, cmp_false ?_ ?_⟩; (focus decide); conv => whnf) | (refine ⟨rfl, cmp_true ?_ ?_⟩; (focus decide); conv => whnf) | (refine ⟨rfl, cmp_false (fun h => h rfl) ?_⟩; conv => whnf)))
    exact ⟨.inl rfl, rfl⟩
  · have hl : ((x ++ y).map cRdn).length = (x ++ y).length := List.length_map _
    by_cases h8 : (x ++ y).length ≤ 8
    · have hr : rightB (x ++ y) = true := by rw [hb, decide_eq_true h8]
      have q4 : Fn Tryz.prog (envX p) 13 [.v (vName (x ++ y))] (.tup [.v (.str (mkB (nameL x ++ 44 :: nameL y))), .v (.int .i64 0)]) := by
        rw [← nameL_append x y hn hm]
        unfold printedB at q3
        rw [hr] at q3
        exact q3
      refine fn_prog tabOk mixed Tryz.f6 Tryz.func6 (by kernel_rfl) (by kernel_rfl) ?_
      conv => whnf
      (repeat (first | (refine st_call sh ?_ rfl rfl ?_; (focus ((repeat' (first | exact trivial | exact rfl | exact Or.inl rfl | exact Or.inr ⟨rfl, rfl⟩ | refine And.intro ?_ ?_)); done)); conv => whnf) | (refine st_call c1 ?_ rfl rfl ?_; (focus ((repeat' (first | exact trivial | exact rfl | exact Or.inl rfl | exact Or.inr ⟨rfl, rfl⟩ | refine And.intro ?_ ?_)); done)); conv => whnf) | (refine st_call c2 ?_ rfl rfl ?_; (focus ((repeat' (first | exact trivial | exact rfl | exact Or.inl rfl | exact Or.inr ⟨rfl, rfl⟩ | refine And.intro ?_ ?_)); done)); conv => whnf) | (refine st_call q1 ?_ rfl rfl ?_; (focus ((repeat' (first | exact trivial | exact rfl | exact Or.inl rfl | exact Or.inr ⟨rfl, rfl⟩ | refine And.intro ?_ ?_)); done)); conv => whnf) | (refine st_call q2 ?_ rfl rfl ?_; (focus ((repeat' (first | exact trivial | exact rfl | exact Or.inl rfl | exact Or.inr ⟨rfl, rfl⟩ | refine And.intro ?_ ?_)); done)); conv => whnf) | (refine cmp_true rfl ?_; conv => whnf) | (refine ⟨rfl, cmp_true rfl ?_⟩; conv => whnf) | (refine cmp_false ?_ ?_; (focus decide); conv => whnf) | (refine ⟨rfl, cmp_false ?_ ?_⟩; (focus decide); conv => whnf) | (refine ⟨rfl, cmp_true ?_ ?_⟩; (focus decide); conv => whnf) | (refine ⟨rfl, cmp_false (fun h => h rfl) ?_⟩; conv => whnf)))
      refine ⟨by rw [List.length_map]; omega, by simp [cRdn], ?_⟩
      conv => whnf
      refine st_app (zs := (x ++ y).map cRdn) (by simp; omega) (by simp [cRdn]) (List.map_append ..).symm ?_
      conv => whnf
      (refine st_call q4 ?_ rfl rfl ?_; (focus ((repeat' (first | exact trivial | exact rfl | exact Or.inl rfl | exact Or.inr ⟨rfl, rfl⟩ | refine And.intro ?_ ?_)); done)); conv => whnf)
      (repeat (first | (refine st_call sh ?_ rfl rfl ?_; (focus ((repeat' (first | exact trivial | exact rfl | exact Or.inl rfl | exact Or.inr ⟨rfl, rfl⟩ | refine And.intro ?_ ?_)); done)); conv => whnf) | (refine cmp_true rfl ?_; conv => whnf) | (refine ⟨rfl, cmp_true rfl ?_⟩; conv => whnf) | (refine cmp_false ?_ ?_; (focus decide); conv => whnf) | (refine ⟨rfl, cmp_false ?_ ?_⟩; (focus decide); conv => whnf) | (refine ⟨rfl, cmp_true ?_ ?_⟩; (focus decide); conv => whnf) | (refine ⟨rfl, cmp_false (fun h => h rfl) ?_⟩; conv => whnf)))
      refine ⟨rfl, cmp_false (len_ne hn) ?_⟩
      conv => whnf
      refine ⟨rfl, cmp_false (len_ne hm) ?_⟩
      conv => whnf
      (repeat (first | (refine st_call sh ?_ rfl rfl ?_; (focus ((repeat' (first | exact trivial | exact rfl | exact Or.inl rfl | exact Or.inr ⟨rfl, rfl⟩ | refine And.intro ?_ ?_)); done)); conv => whnf) | (refine cmp_true rfl ?_; conv => whnf) | (refine ⟨rfl, cmp_true rfl ?_⟩; conv => whnf) | (refine cmp_false ?_ ?_; (focus decide); conv => whnf) | (refine ⟨rfl, cmp_false ?_ ?_⟩; (focus decide); conv => whnf) | (refine ⟨rfl, cmp_true ?_ ?_⟩; (focus decide); conv => whnf) | (refine ⟨rfl, cmp_false (fun h => h rfl) ?_⟩; conv => whnf)))
      refine ⟨rfl, cmp_true (by rw [hl]; omega) ?_⟩
      conv => whnf
      (repeat (first | (refine st_call sh ?_ rfl rfl ?_; (focus ((repeat' (first | exact trivial | exact rfl | exact Or.inl rfl | exact Or.inr ⟨rfl, rfl⟩ | refine And.intro ?_ ?_)); done)); conv => whnf) | (refine cmp_true rfl ?_; conv => whnf) | (refine ⟨rfl, cmp_true rfl ?_⟩; conv => whnf) | (refine cmp_false ?_ ?_; (focus decide); conv => whnf) | (refine ⟨rfl, cmp_false ?_ ?_⟩; (focus decide); conv => whnf) | (refine ⟨rfl, cmp_true ?_ ?_⟩; (focus decide); conv => whnf) | (refine ⟨rfl, cmp_false (fun h => h rfl) ?_⟩; conv => whnf)))
      refine st_cat (by simp only [mkB_size]; show _ + 1 ≤ _; omega) (show mkB (nameL x) ++ ⟨#[44]⟩ = mkB (nameL x ++ [44]) from mkB_app (nameL x) [44]) ?_
      conv => whnf
      refine st_cat (by simp only [mkB_size, List.length_append, List.length_singleton]; omega) (mkB_app _ _) ?_
      conv => whnf
      rw [show nameL x ++ [44] ++ nameL y = nameL x ++ 44 :: nameL y by simp]
      (repeat (first | (refine st_call sh ?_ rfl rfl ?_; (focus ((repeat' (first | exact trivial | exact rfl | exact Or.inl rfl | exact Or.inr ⟨rfl, rfl⟩ | refine And.intro ?_ ?_)); done)); conv => whnf) | (refine cmp_true rfl ?_; conv => whnf) | (refine ⟨rfl, cmp_true rfl ?_⟩; conv => whnf) | (refine cmp_false ?_ ?_; (focus decide); conv => whnf) | (refine ⟨rfl, cmp_false ?_ ?_⟩; (focus decide); conv => whnf) | (refine ⟨rfl, cmp_true ?_ ?_⟩; (focus decide); conv => whnf) | (refine ⟨rfl, cmp_false (fun h => h rfl) ?_⟩; conv => whnf)))
      exact ⟨.inl rfl, rfl⟩
    · have hr : rightB (x ++ y) = false := by rw [hb, decide_eq_false h8]
      have q4 : Fn Tryz.prog (envX p) 13 [.v (vName (x ++ y))] (.tup [.v (.str ⟨#[]⟩), .v (.int .i64 70)]) := by
        unfold printedB at q3
        rw [hr] at q3
        exact q3
      refine fn_prog tabOk mixed Tryz.f6 Tryz.func6 (by kernel_rfl) (by kernel_rfl) ?_
      conv => whnf
      (repeat (first | (refine st_call sh ?_ rfl rfl ?_; (focus ((repeat' (first | exact trivial | exact rfl | exact Or.inl rfl | exact Or.inr ⟨rfl, rfl⟩ | refine And.intro ?_ ?_)); done)); conv => whnf) | (refine st_call c1 ?_ rfl rfl ?_; (focus ((repeat' (first | exact trivial | exact rfl | exact Or.inl rfl | exact Or.inr ⟨rfl, rfl⟩ | refine And.intro ?_ ?_)); done)); conv => whnf) | (refine st_call c2 ?_ rfl rfl ?_; (focus ((repeat' (first | exact trivial | exact rfl | exact Or.inl rfl | exact Or.inr ⟨rfl, rfl⟩ | refine And.intro ?_ ?_)); done)); conv => whnf) | (refine st_call q1 ?_ rfl rfl ?_; (focus ((repeat' (first | exact trivial | exact rfl | exact Or.inl rfl | exact Or.inr ⟨rfl, rfl⟩ | refine And.intro ?_ ?_)); done)); conv => whnf) | (refine st_call q2 ?_ rfl rfl ?_; (focus ((repeat' (first | exact trivial | exact rfl | exact Or.inl rfl | exact Or.inr ⟨rfl, rfl⟩ | refine And.intro ?_ ?_)); done)); conv => whnf) | (refine cmp_true rfl ?_; conv => whnf) | (refine ⟨rfl, cmp_true rfl ?_⟩; conv => whnf) | (refine cmp_false ?_ ?_; (focus decide); conv => whnf) | (refine ⟨rfl, cmp_false ?_ ?_⟩; (focus decide); conv => whnf) | (refine ⟨rfl, cmp_true ?_ ?_⟩; (focus decide); conv => whnf) | (refine ⟨rfl, cmp_false (fun h => h rfl) ?_⟩; conv => whnf)))
      refine ⟨by rw [List.length_map]; omega, by simp [cRdn], ?_⟩
      conv => whnf
      refine st_app (zs := (x ++ y).map cRdn) (by simp; omega) (by simp [cRdn]) (List.map_append ..).symm ?_
      conv => whnf
      (refine st_call q4 ?_ rfl rfl ?_; (focus ((repeat' (first | exact trivial | exact rfl | exact Or.inl rfl | exact Or.inr ⟨rfl, rfl⟩ | refine And.intro ?_ ?_)); done)); conv => whnf)
      (repeat (first | (refine st_call sh ?_ rfl rfl ?_; (focus ((repeat' (first | exact trivial | exact rfl | exact Or.inl rfl | exact Or.inr ⟨rfl, rfl⟩ | refine And.intro ?_ ?_)); done)); conv => whnf) | (refine cmp_true rfl ?_; conv => whnf) | (refine ⟨rfl, cmp_true rfl ?_⟩; conv => whnf) | (refine cmp_false ?_ ?_; (focus decide); conv => whnf) | (refine ⟨rfl, cmp_false ?_ ?_⟩; (focus decide); conv => whnf) | (refine ⟨rfl, cmp_true ?_ ?_⟩; (focus decide); conv => whnf) | (refine ⟨rfl, cmp_false (fun h => h rfl) ?_⟩; conv => whnf)))
      refine ⟨rfl, cmp_false (len_ne hn) ?_⟩
      conv => whnf
      refine ⟨rfl, cmp_false (len_ne hm) ?_⟩
      conv => whnf
      (repeat (first | (refine st_call sh ?_ rfl rfl ?_; (focus ((repeat' (first | exact trivial | exact rfl | exact Or.inl rfl | exact Or.inr ⟨rfl, rfl⟩ | refine And.intro ?_ ?_)); done)); conv => whnf) | (refine cmp_true rfl ?_; conv => whnf) | (refine ⟨rfl, cmp_true rfl ?_⟩; conv => whnf) | (refine cmp_false ?_ ?_; (focus decide); conv => whnf) | (refine ⟨rfl, cmp_false ?_ ?_⟩; (focus decide); conv => whnf) | (refine ⟨rfl, cmp_true ?_ ?_⟩; (focus decide); conv => whnf) | (refine ⟨rfl, cmp_false (fun h => h rfl) ?_⟩; conv => whnf)))
      refine ⟨rfl, cmp_false (by rw [hl]; omega) ?_⟩
      conv => whnf
      (repeat (first | (refine st_call sh ?_ rfl rfl ?_; (focus ((repeat' (first | exact trivial | exact rfl | exact Or.inl rfl | exact Or.inr ⟨rfl, rfl⟩ | refine And.intro ?_ ?_)); done)); conv => whnf) | (refine cmp_true rfl ?_; conv => whnf) | (refine ⟨rfl, cmp_true rfl ?_⟩; conv => whnf) | (refine cmp_false ?_ ?_; (focus decide); conv => whnf) | (refine ⟨rfl, cmp_false ?_ ?_⟩; (focus decide); conv => whnf) | (refine ⟨rfl, cmp_true ?_ ?_⟩; (focus decide); conv => whnf) | (refine ⟨rfl, cmp_false (fun h => h rfl) ?_⟩; conv => whnf)))
      exact ⟨.inl rfl, rfl⟩
end Go.Proofs.YtjmpkbmgcbalkaaGreatDoor.Dn
/- dn's laws DnParents and DnValues. No conditions. -/
namespace Go.Proofs.YtjmpkbmgcbalkaaGreatDoor.Dn
open Go.RowKit
set_option linter.unusedVariables false
variable (p : Nat → Addr)
theorem rdnL_ne {r : Rdn} (h : rdnB r = true) : rdnL r ≠ [] := by
  unfold rdnB at h
  simp only [Bool.and_eq_true, decide_eq_true_eq] at h
  obtain ⟨a, t, rfl⟩ : ∃ a t, r = a :: t := by cases r with
    | nil => simp at h
    | cons a t => exact ⟨a, t, rfl⟩
  exact join_ne 43 _ (by simp) fun x hx => by obtain ⟨b, _, rfl⟩ := List.mem_map.1 hx; exact ava_ne b
/-- a name's text is longer than that of what is above it, and ends with it -/
theorem parent_text {r : Rdn} {d : Name} (h : rightB (r :: d) = true) : ∃ u : List UInt8, u ≠ [] ∧ nameL (r :: d) = u ++ nameL d := by
  have hr := rdnL_ne ((right_row h).2 r (by simp))
  by_cases hd : d = []
  · subst hd; exact ⟨rdnL r, hr, by show rdnL r = rdnL r ++ []; rw [List.append_nil]⟩
  · exact ⟨rdnL r ++ [44], by simp, by rw [nameL_cons r d hd]; simp⟩
theorem mkB_extract (u v : List UInt8) : (mkB (u ++ v)).extract u.length (u ++ v).length = mkB v := by
  apply ByteArray.ext
  simp [mkB]
set_option maxRecDepth 100000 in
set_option maxHeartbeats 4000000 in
theorem parents_law (x0 : Name) : Fn Tryz.prog (envX p) 7 [.v (vName x0)] (.v (.bool true)) := by
  have c1 := cut_fn (envX p) x0
  have sx := cut_small x0
  generalize cutName x0 = x at *
  have hlx := sx.len
  have q1 := print_fn p x
  have sh := shown_fn p
  cases hx : rightB x
  · have q2 : Fn Tryz.prog (envX p) 13 [.v (vName x)] (.tup [.v (.str ⟨#[]⟩), .v (.int .i64 70)]) := by
      unfold printedB at q1
      rw [hx] at q1
      exact q1
    refine fn_prog tabOk mixed Tryz.f7 Tryz.func7 (by kernel_rfl) (by kernel_rfl) ?_
    conv => whnf
    (repeat (first | (refine st_call sh ?_ rfl rfl ?_; (focus ((repeat' (first | exact trivial | exact rfl | exact Or.inl rfl | exact Or.inr ⟨rfl, rfl⟩ | refine And.intro ?_ ?_)); done)); conv => whnf) | (refine st_call c1 ?_ rfl rfl ?_; (focus ((repeat' (first | exact trivial | exact rfl | exact Or.inl rfl | exact Or.inr ⟨rfl, rfl⟩ | refine And.intro ?_ ?_)); done)); conv => whnf) | (refine st_call q2 ?_ rfl rfl ?_; (focus ((repeat' (first | exact trivial | exact rfl | exact Or.inl rfl | exact Or.inr ⟨rfl, rfl⟩ | refine And.intro ?_ ?_)); done)); conv => whnf) | (refine cmp_true rfl ?_; conv => whnf) | (refine ⟨rfl, cmp_true rfl ?_⟩; conv => whnf) | (refine cmp_false ?_ ?_; (focus decide); conv => whnf) | (refine ⟨rfl, cmp_false ?_ ?_⟩; (focus decide); conv => whnf) | (refine ⟨rfl, cmp_true ?_ ?_⟩; (focus decide); conv => whnf) | (refine ⟨rfl, cmp_false (fun h => h rfl) ?_⟩; conv => whnf)))
    exact ⟨.inl rfl, rfl⟩
  have px : printedB x = mkB (nameL x) := by unfold printedB; rw [if_pos hx]
  rw [px, hx] at q1
  have q2 : Fn Tryz.prog (envX p) 13 [.v (vName x)] (.tup [.v (.str (mkB (nameL x))), .v (.int .i64 0)]) := q1
  cases x with
  | nil =>
    refine fn_prog tabOk mixed Tryz.f7 Tryz.func7 (by kernel_rfl) (by kernel_rfl) ?_
    conv => whnf
    (repeat (first | (refine st_call sh ?_ rfl rfl ?_; (focus ((repeat' (first | exact trivial | exact rfl | exact Or.inl rfl | exact Or.inr ⟨rfl, rfl⟩ | refine And.intro ?_ ?_)); done)); conv => whnf) | (refine st_call c1 ?_ rfl rfl ?_; (focus ((repeat' (first | exact trivial | exact rfl | exact Or.inl rfl | exact Or.inr ⟨rfl, rfl⟩ | refine And.intro ?_ ?_)); done)); conv => whnf) | (refine st_call q2 ?_ rfl rfl ?_; (focus ((repeat' (first | exact trivial | exact rfl | exact Or.inl rfl | exact Or.inr ⟨rfl, rfl⟩ | refine And.intro ?_ ?_)); done)); conv => whnf) | (refine cmp_true rfl ?_; conv => whnf) | (refine ⟨rfl, cmp_true rfl ?_⟩; conv => whnf) | (refine cmp_false ?_ ?_; (focus decide); conv => whnf) | (refine ⟨rfl, cmp_false ?_ ?_⟩; (focus decide); conv => whnf) | (refine ⟨rfl, cmp_true ?_ ?_⟩; (focus decide); conv => whnf) | (refine ⟨rfl, cmp_false (fun h => h rfl) ?_⟩; conv => whnf)))
    exact ⟨.inl rfl, rfl⟩
  | cons r d =>
    have hd : rightB d = true := (rightB_append (x := [r]) (y := d) hx).2
    have sd := right_small hd
    have hld := sd.len
    have q3 := print_fn p d
    have pd : printedB d = mkB (nameL d) := by unfold printedB; rw [if_pos hd]
    rw [pd, hd] at q3
    have q4 : Fn Tryz.prog (envX p) 13 [.v (vName d)] (.tup [.v (.str (mkB (nameL d))), .v (.int .i64 0)]) := q3
    have u1 := under_fn p (r :: d) d sx.ok (by omega)
    have u2 := under_fn p d (r :: d) sd.ok (by omega)
    rw [(under_iff _ _).2 (List.suffix_cons _ _)] at u1
    rw [show underB d (r :: d) = false by
      cases h : underB d (r :: d) with
      | false => rfl
      | true => have := ((under_iff _ _).1 h).length_le; rw [List.length_cons] at this; omega] at u2
    obtain ⟨u, hu, ht⟩ := parent_text hx
    have lx := right_len hx
    have hul : 0 < u.length := List.length_pos_iff.2 hu
    have hsz : (mkB (nameL (r :: d))).size = u.length + (nameL d).length := by rw [mkB_size, ht, List.length_append]
    have hl2 : u.length + (nameL d).length ≤ 5000 := by rw [← List.length_append, ← ht]; exact lx
    have hmd : (mkB (nameL d)).size = (nameL d).length := rfl
    refine fn_prog tabOk mixed Tryz.f7 Tryz.func7 (by kernel_rfl) (by kernel_rfl) ?_
    conv => whnf
    (repeat (first | (refine st_call sh ?_ rfl rfl ?_; (focus ((repeat' (first | exact trivial | exact rfl | exact Or.inl rfl | exact Or.inr ⟨rfl, rfl⟩ | refine And.intro ?_ ?_)); done)); conv => whnf) | (refine st_call c1 ?_ rfl rfl ?_; (focus ((repeat' (first | exact trivial | exact rfl | exact Or.inl rfl | exact Or.inr ⟨rfl, rfl⟩ | refine And.intro ?_ ?_)); done)); conv => whnf) | (refine st_call q2 ?_ rfl rfl ?_; (focus ((repeat' (first | exact trivial | exact rfl | exact Or.inl rfl | exact Or.inr ⟨rfl, rfl⟩ | refine And.intro ?_ ?_)); done)); conv => whnf) | (refine cmp_true rfl ?_; conv => whnf) | (refine ⟨rfl, cmp_true rfl ?_⟩; conv => whnf) | (refine cmp_false ?_ ?_; (focus decide); conv => whnf) | (refine ⟨rfl, cmp_false ?_ ?_⟩; (focus decide); conv => whnf) | (refine ⟨rfl, cmp_true ?_ ?_⟩; (focus decide); conv => whnf) | (refine ⟨rfl, cmp_false (fun h => h rfl) ?_⟩; conv => whnf)))
    refine ⟨rfl, cmp_false (len_ne (by simp)) ?_⟩
    conv => whnf
    (repeat (first | (refine st_call sh ?_ rfl rfl ?_; (focus ((repeat' (first | exact trivial | exact rfl | exact Or.inl rfl | exact Or.inr ⟨rfl, rfl⟩ | refine And.intro ?_ ?_)); done)); conv => whnf) | (refine cmp_true rfl ?_; conv => whnf) | (refine ⟨rfl, cmp_true rfl ?_⟩; conv => whnf) | (refine cmp_false ?_ ?_; (focus decide); conv => whnf) | (refine ⟨rfl, cmp_false ?_ ?_⟩; (focus decide); conv => whnf) | (refine ⟨rfl, cmp_true ?_ ?_⟩; (focus decide); conv => whnf) | (refine ⟨rfl, cmp_false (fun h => h rfl) ?_⟩; conv => whnf)))
    refine st_sub 1 (d.length + 1) rfl (by rw [List.length_map]; rfl) (by omega) (by rw [List.length_map]; exact Nat.le_refl _) (by simp [cRdn]) (z := d.map cRdn) (by rw [List.take_of_length_le (by rw [List.length_map]; exact Nat.le_refl _)]; rfl) ?_
    conv => whnf
    (repeat (first | (refine st_call q4 ?_ rfl rfl ?_; (focus ((repeat' (first | exact trivial | exact rfl | exact Or.inl rfl | exact Or.inr ⟨rfl, rfl⟩ | refine And.intro ?_ ?_)); done)); conv => whnf) | (refine cmp_true rfl ?_; conv => whnf) | (refine ⟨rfl, cmp_true rfl ?_⟩; conv => whnf) | (refine cmp_false ?_ ?_; (focus decide); conv => whnf) | (refine ⟨rfl, cmp_false ?_ ?_⟩; (focus decide); conv => whnf) | (refine ⟨rfl, cmp_true ?_ ?_⟩; (focus decide); conv => whnf) | (refine ⟨rfl, cmp_false (fun h => h rfl) ?_⟩; conv => whnf)))
    refine st_sub 1 (d.length + 1) rfl (by rw [List.length_map]; rfl) (by omega) (by rw [List.length_map]; exact Nat.le_refl _) (by simp [cRdn]) (z := d.map cRdn) (by rw [List.take_of_length_le (by rw [List.length_map]; exact Nat.le_refl _)]; rfl) ?_
    conv => whnf
    (repeat (first | (refine st_call u1 ?_ rfl rfl ?_; (focus ((repeat' (first | exact trivial | exact rfl | exact Or.inl rfl | exact Or.inr ⟨rfl, rfl⟩ | refine And.intro ?_ ?_)); done)); conv => whnf) | (refine cmp_true rfl ?_; conv => whnf) | (refine ⟨rfl, cmp_true rfl ?_⟩; conv => whnf) | (refine cmp_false ?_ ?_; (focus decide); conv => whnf) | (refine ⟨rfl, cmp_false ?_ ?_⟩; (focus decide); conv => whnf) | (refine ⟨rfl, cmp_true ?_ ?_⟩; (focus decide); conv => whnf) | (refine ⟨rfl, cmp_false (fun h => h rfl) ?_⟩; conv => whnf)))
    refine st_sub 1 (d.length + 1) rfl (by rw [List.length_map]; rfl) (by omega) (by rw [List.length_map]; exact Nat.le_refl _) (by simp [cRdn]) (z := d.map cRdn) (by rw [List.take_of_length_le (by rw [List.length_map]; exact Nat.le_refl _)]; rfl) ?_
    conv => whnf
    (repeat (first | (refine st_call u2 ?_ rfl rfl ?_; (focus ((repeat' (first | exact trivial | exact rfl | exact Or.inl rfl | exact Or.inr ⟨rfl, rfl⟩ | refine And.intro ?_ ?_)); done)); conv => whnf) | (refine cmp_true rfl ?_; conv => whnf) | (refine ⟨rfl, cmp_true rfl ?_⟩; conv => whnf) | (refine cmp_false ?_ ?_; (focus decide); conv => whnf) | (refine ⟨rfl, cmp_false ?_ ?_⟩; (focus decide); conv => whnf) | (refine ⟨rfl, cmp_true ?_ ?_⟩; (focus decide); conv => whnf) | (refine ⟨rfl, cmp_false (fun h => h rfl) ?_⟩; conv => whnf)))
    refine ⟨rfl, cmp_true (by rw [hsz, mkB_size]; omega) ?_⟩
    conv => whnf
    refine ⟨rfl, st_wrap (by omega) (by omega) ?_⟩
    conv => whnf
    refine st_cut u.length (u ++ nameL d).length (by rw [hsz, mkB_size]; omega) (by rw [hsz, List.length_append]) (by rw [List.length_append]; omega) (by rw [hsz, List.length_append]; exact Nat.le_refl _) ?_
    rw [show (mkB (nameL (r :: d))).extract u.length (u ++ nameL d).length = mkB (nameL d) by rw [ht]; exact mkB_extract _ _]
    conv => whnf
    (repeat (first | (refine st_call sh ?_ rfl rfl ?_; (focus ((repeat' (first | exact trivial | exact rfl | exact Or.inl rfl | exact Or.inr ⟨rfl, rfl⟩ | refine And.intro ?_ ?_)); done)); conv => whnf) | (refine cmp_true rfl ?_; conv => whnf) | (refine ⟨rfl, cmp_true rfl ?_⟩; conv => whnf) | (refine cmp_false ?_ ?_; (focus decide); conv => whnf) | (refine ⟨rfl, cmp_false ?_ ?_⟩; (focus decide); conv => whnf) | (refine ⟨rfl, cmp_true ?_ ?_⟩; (focus decide); conv => whnf) | (refine ⟨rfl, cmp_false (fun h => h rfl) ?_⟩; conv => whnf)))
    exact ⟨.inl rfl, rfl⟩
/-! ### one value -/
theorem one_right (a : Ava) : rightB [[a]] = avaB a := by simp [rightB, rdnB]
theorem one_text (a : Ava) : nameL [[a]] = avaL a := rfl
def cut100 (s : ByteArray) : ByteArray := s.extract 0 (min s.size 100)
set_option maxRecDepth 100000 in
set_option maxHeartbeats 4000000 in
theorem values_law (s0 t0 : ByteArray) : Fn Tryz.prog (envX p) 8 [.v (.str s0), .v (.str t0)] (.v (.bool true)) := by
  have hk : (cut100 s0).size ≤ 100 := by simp [cut100]; omega
  have hv : (cut100 t0).size ≤ 100 := by simp [cut100]; omega
  have walk : ∀ (k v : ByteArray), k.size ≤ 100 → v.size ≤ 100 → cut100 s0 = k → cut100 t0 = v → Fn Tryz.prog (envX p) 8 [.v (.str s0), .v (.str t0)] (.v (.bool true)) := fun k v hk hv e1 e2 => by
    have q1 := print_fn p [[(k, v)]]
    have q2 := type_fn p k
    have q3 := escName_fn p v (by omega)
    have sh := shown_fn p
    unfold cut100 at e1 e2
    have hR : rightB [[(k, v)]] = (typeB k.data.toList && decide (v.size ≤ 60)) := one_right (k, v)
    unfold printedB at q1
    cases hr : rightB [[(k, v)]]
    · rw [hr] at q1 hR
      have q4 : Fn Tryz.prog (envX p) 13 [.v (vName [[(k, v)]])] (.tup [.v (.str ⟨#[]⟩), .v (.int .i64 70)]) := q1
      refine fn_prog tabOk mixed Tryz.f8 Tryz.func8 (by kernel_rfl) (by kernel_rfl) ?_
      conv => whnf
      (refine st_call sh ?_ rfl rfl ?_; (focus ((repeat' (first | exact trivial | exact rfl | exact Or.inl rfl | exact Or.inr ⟨rfl, rfl⟩ | refine And.intro ?_ ?_)); done)); conv => whnf)
      refine st_min 100 ?_
      conv => whnf
      refine st_cut 0 (min s0.size 100) rfl rfl (by omega) (by omega) ?_
      rw [e1]
      conv => whnf
      refine st_min 100 ?_
      conv => whnf
      refine st_cut 0 (min t0.size 100) rfl rfl (by omega) (by omega) ?_
      rw [e2]
      conv => whnf
      (refine st_call q4 ?_ rfl rfl ?_; (focus ((repeat' (first | exact trivial | exact rfl | exact Or.inl rfl | exact Or.inr ⟨rfl, rfl⟩ | refine And.intro ?_ ?_)); done)); conv => whnf)
      (repeat (first | (refine st_call sh ?_ rfl rfl ?_; (focus ((repeat' (first | exact trivial | exact rfl | exact Or.inl rfl | exact Or.inr ⟨rfl, rfl⟩ | refine And.intro ?_ ?_)); done)); conv => whnf) | (refine cmp_true rfl ?_; conv => whnf) | (refine ⟨rfl, cmp_true rfl ?_⟩; conv => whnf) | (refine cmp_false ?_ ?_; (focus decide); conv => whnf) | (refine ⟨rfl, cmp_false ?_ ?_⟩; (focus decide); conv => whnf) | (refine ⟨rfl, cmp_true ?_ ?_⟩; (focus decide); conv => whnf) | (refine ⟨rfl, cmp_false (fun h => h rfl) ?_⟩; conv => whnf)))
      cases ht : typeB k.data.toList
      · rw [ht] at q2
        (repeat (first | (refine st_call q2 ?_ rfl rfl ?_; (focus ((repeat' (first | exact trivial | exact rfl | exact Or.inl rfl | exact Or.inr ⟨rfl, rfl⟩ | refine And.intro ?_ ?_)); done)); conv => whnf) | (refine cmp_true rfl ?_; conv => whnf) | (refine ⟨rfl, cmp_true rfl ?_⟩; conv => whnf) | (refine cmp_false ?_ ?_; (focus decide); conv => whnf) | (refine ⟨rfl, cmp_false ?_ ?_⟩; (focus decide); conv => whnf) | (refine ⟨rfl, cmp_true ?_ ?_⟩; (focus decide); conv => whnf) | (refine ⟨rfl, cmp_false (fun h => h rfl) ?_⟩; conv => whnf)))
        exact ⟨.inl rfl, rfl⟩
      · rw [ht] at q2 hR
        have hv6 : 60 < v.size := by
          rw [Bool.true_and] at hR
          have := of_decide_eq_false hR.symm
          omega
        (refine st_call q2 ?_ rfl rfl ?_; (focus ((repeat' (first | exact trivial | exact rfl | exact Or.inl rfl | exact Or.inr ⟨rfl, rfl⟩ | refine And.intro ?_ ?_)); done)); conv => whnf)
        refine ⟨rfl, cmp_true (by omega) ?_⟩
        conv => whnf
        exact ⟨.inl rfl, rfl⟩
    · rw [hr] at q1 hR
      have hR2 := hR.symm
      rw [Bool.and_eq_true] at hR2
      rw [hR2.1] at q2
      have q4 : Fn Tryz.prog (envX p) 13 [.v (vName [[(k, v)]])] (.tup [.v (.str (mkB (avaL (k, v)))), .v (.int .i64 0)]) := q1
      refine fn_prog tabOk mixed Tryz.f8 Tryz.func8 (by kernel_rfl) (by kernel_rfl) ?_
      conv => whnf
      (refine st_call sh ?_ rfl rfl ?_; (focus ((repeat' (first | exact trivial | exact rfl | exact Or.inl rfl | exact Or.inr ⟨rfl, rfl⟩ | refine And.intro ?_ ?_)); done)); conv => whnf)
      refine st_min 100 ?_
      conv => whnf
      refine st_cut 0 (min s0.size 100) rfl rfl (by omega) (by omega) ?_
      rw [e1]
      conv => whnf
      refine st_min 100 ?_
      conv => whnf
      refine st_cut 0 (min t0.size 100) rfl rfl (by omega) (by omega) ?_
      rw [e2]
      conv => whnf
      (refine st_call q4 ?_ rfl rfl ?_; (focus ((repeat' (first | exact trivial | exact rfl | exact Or.inl rfl | exact Or.inr ⟨rfl, rfl⟩ | refine And.intro ?_ ?_)); done)); conv => whnf)
      (repeat (first | (refine st_call sh ?_ rfl rfl ?_; (focus ((repeat' (first | exact trivial | exact rfl | exact Or.inl rfl | exact Or.inr ⟨rfl, rfl⟩ | refine And.intro ?_ ?_)); done)); conv => whnf) | (refine cmp_true rfl ?_; conv => whnf) | (refine ⟨rfl, cmp_true rfl ?_⟩; conv => whnf) | (refine cmp_false ?_ ?_; (focus decide); conv => whnf) | (refine ⟨rfl, cmp_false ?_ ?_⟩; (focus decide); conv => whnf) | (refine ⟨rfl, cmp_true ?_ ?_⟩; (focus decide); conv => whnf) | (refine ⟨rfl, cmp_false (fun h => h rfl) ?_⟩; conv => whnf)))
      (repeat (first | (refine st_call q2 ?_ rfl rfl ?_; (focus ((repeat' (first | exact trivial | exact rfl | exact Or.inl rfl | exact Or.inr ⟨rfl, rfl⟩ | refine And.intro ?_ ?_)); done)); conv => whnf) | (refine cmp_true rfl ?_; conv => whnf) | (refine ⟨rfl, cmp_true rfl ?_⟩; conv => whnf) | (refine cmp_false ?_ ?_; (focus decide); conv => whnf) | (refine ⟨rfl, cmp_false ?_ ?_⟩; (focus decide); conv => whnf) | (refine ⟨rfl, cmp_true ?_ ?_⟩; (focus decide); conv => whnf) | (refine ⟨rfl, cmp_false (fun h => h rfl) ?_⟩; conv => whnf)))
      refine st_cat (show _ + 1 ≤ _ by omega) rfl ?_
      conv => whnf
      (refine st_call q3 ?_ rfl rfl ?_; (focus ((repeat' (first | exact trivial | exact rfl | exact Or.inl rfl | exact Or.inr ⟨rfl, rfl⟩ | refine And.intro ?_ ?_)); done)); conv => whnf)
      refine st_cat (cat_len (ava_text (k, v)) (avaL_len (a := (k, v)) ⟨by show k.size ≤ 1000; omega, by show v.size ≤ 1000; omega⟩)) (ava_text (k, v)) ?_
      conv => whnf
      (repeat (first | (refine st_call sh ?_ rfl rfl ?_; (focus ((repeat' (first | exact trivial | exact rfl | exact Or.inl rfl | exact Or.inr ⟨rfl, rfl⟩ | refine And.intro ?_ ?_)); done)); conv => whnf) | (refine cmp_true rfl ?_; conv => whnf) | (refine ⟨rfl, cmp_true rfl ?_⟩; conv => whnf) | (refine cmp_false ?_ ?_; (focus decide); conv => whnf) | (refine ⟨rfl, cmp_false ?_ ?_⟩; (focus decide); conv => whnf) | (refine ⟨rfl, cmp_true ?_ ?_⟩; (focus decide); conv => whnf) | (refine ⟨rfl, cmp_false (fun h => h rfl) ?_⟩; conv => whnf)))
      exact ⟨.inl rfl, rfl⟩
  exact walk _ _ hk hv rfl rfl
end Go.Proofs.YtjmpkbmgcbalkaaGreatDoor.Dn
