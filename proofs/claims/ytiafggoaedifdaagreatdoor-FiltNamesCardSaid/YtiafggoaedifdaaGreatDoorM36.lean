/- Several texts, one behind the other. Cards: what reads of a type is a value that stands in memory as the walks without memory tell it; structs and slices however deep, types that hold themselves. Whatever program. filt, cards: what reads of a filter's type is a filter. -/
import Derived.Test.YtiafggoaedifdaaGreatDoorM17
import Derived.ChangeArms
import Derived.Test.YtiafggoaedifdaaGreatDoorM19
/- Cards: what reads of a type is a value that stands in memory as the walks without memory tell it; structs and slices however deep, types that hold themselves. Whatever program. -/
namespace Go.Proofs.YtiafggoaedifdaaGreatDoor
open Go.RowKit
set_option linter.unusedVariables false
/-- what reads of a type, with not more than so much fuel, is cells that stand for values of which G holds -/
def OpV (P : Program) (w : World) (n : Nat) (t : TypeId) (G : List V → Prop) : Prop := ∀ (H : Type) (enc : TypeId × Value → H) fuel, fuel ≤ n → ∀ cs y, DataW.trod enc P w 0 (fun _ => true) true fuel t cs = some y → ∃ l, RepL w (Lall w) l cs ∧ G l
theorem OpV.mono {P : Program} {w : World} {n m : Nat} {t : TypeId} {G : List V → Prop} (h : OpV P w n t G) (hm : m ≤ n) : OpV P w m t G := fun H enc fuel hf cs y hd => h H enc fuel (Nat.le_trans hf hm) cs y hd
theorem OpV.imp {P : Program} {w : World} {n : Nat} {t : TypeId} {G G' : List V → Prop} (h : OpV P w n t G) (hi : ∀ l, G l → G' l) : OpV P w n t G' := fun H enc fuel hf cs y hd => let ⟨l, h1, h2⟩ := h H enc fuel hf cs y hd; ⟨l, h1, hi l h2⟩
def GStr : List V → Prop := fun l => ∃ s : ByteArray, l = [.str s]
def GInt (k : IntKind) : List V → Prop := fun l => ∃ n : Int, l = [.int k n] ∧ (Lit.int k n).wf = true
def GBool : List V → Prop := fun l => ∃ b : Bool, l = [.bool b]
def GSl (G : List V → Prop) : List V → Prop := fun l => ∃ xs : List (List V), l = [.sl xs] ∧ ∀ c ∈ xs, G c
theorem opV_str {P : Program} {w : World} {n : Nat} {t : TypeId} (ht : P.underlying t = some .string) : OpV P w n t GStr := by
  intro H enc fuel _ cs y h
  cases fuel with
  | zero => simp [DataW.trod] at h
  | succ n =>
    unfold DataW.trod at h
    rw [ht] at h
    split at h <;> simp_all
    exact ⟨[.str _], ⟨_, [], rfl, rfl, rfl, rfl⟩, _, rfl⟩
theorem opV_int {P : Program} {w : World} {n : Nat} {t : TypeId} {k : IntKind} (ht : P.underlying t = some (.int k)) : OpV P w n t (GInt k) := by
  intro H enc fuel _ cs y h
  cases fuel with
  | zero => simp [DataW.trod] at h
  | succ n =>
    unfold DataW.trod at h
    rw [ht] at h
    split at h <;> simp_all
    obtain ⟨⟨h1, h2⟩, _⟩ := h
    subst h1
    exact ⟨[.int _ _], ⟨_, [], rfl, rfl, rfl, rfl⟩, _, rfl, h2⟩
theorem opV_bool {P : Program} {w : World} {n : Nat} {t : TypeId} (ht : P.underlying t = some .bool) : OpV P w n t GBool := by
  intro H enc fuel _ cs y h
  cases fuel with
  | zero => simp [DataW.trod] at h
  | succ n =>
    unfold DataW.trod at h
    rw [ht] at h
    split at h <;> simp_all
    rename_i b
    cases b
    · exact ⟨[.bool false], ⟨_, [], rfl, rfl, rfl, rfl⟩, _, rfl⟩
    · exact ⟨[.bool true], ⟨_, [], rfl, rfl, rfl, rfl⟩, _, rfl⟩
theorem opV_slice {P : Program} {w : World} {n : Nat} {t e : TypeId} {G : List V → Prop} (ht : P.underlying t = some (.slice e)) (hk0 : 0 < P.cellsOf e) (he : OpV P w n e G) : OpV P w (n + 1) t (GSl G) := by
  intro H enc fuel hf cs y h
  rcases DataW.trod_slice ht h with ⟨h0, _⟩ | ⟨a, len, cap, elems, rest, m, hfm, rfl, rfl, hb, hl, hm, hlen, hel, hsp, hns⟩
  · subst h0
    exact ⟨[.sl []], ⟨_, [], rfl, rfl, ⟨none, 0, rfl, Nat.le_refl _, fun h => absurd rfl h⟩, rfl⟩, [], rfl, fun c hc => by cases hc⟩
  · have each : ∀ j : Fin len, ∃ (l : List V) (ws : List Value), RepL w (Lall w) l ws ∧ G l ∧ ws.length = P.cellsOf e ∧ ∀ i u, ws[i]? = some u → w.cell? (a.add (j * P.cellsOf e + i)) = some u := fun j => by
      have h1 := hel j j.2
      rw [List.getElem?_eq_getElem (by omega), Option.bind_eq_some_iff] at h1
      obtain ⟨cs, hc, hd⟩ := h1
      obtain ⟨l, hx, hg⟩ := he H enc m (by omega) cs _ hd
      obtain ⟨_, hcl, hcell⟩ := cells_get hc
      exact ⟨l, cs, hx, hg, hcl, fun i u hu => by rw [← add_add]; exact hcell i u hu⟩
    have hw1 : ∀ (h : 0 < len), ∃ u, w.cell? a = some u := fun h => by
      obtain ⟨ws, h1, h2, h3, h4⟩ := (each ⟨0, h⟩).choose_spec
      exact ⟨_, by simpa [Addr.add] using h4 0 (ws[0]'(by omega)) (List.getElem?_eq_getElem _)⟩
    have hsp : ∀ (h : 0 < len), a = ⟨a.block, a.off, none⟩ := fun h => by
      obtain ⟨u, hu⟩ := hw1 h
      obtain ⟨b, o, sp⟩ := a
      cases sp with
      | none => rfl
      | some s =>
        unfold World.cell? at hu
        split at hu <;> simp at hu
    refine ⟨[.sl (List.ofFn fun j => (each j).choose)], ⟨_, [], rfl, rfl, ⟨some a, cap, by rw [List.length_ofFn], by rw [List.length_ofFn]; exact hl, fun hne => ?_⟩, rfl⟩, _, rfl, fun c hc => ?_⟩
    · have hpos : 0 < len := by
        rcases Nat.eq_zero_or_pos len with h | h
        · subst h; simp at hne
        · exact h
      refine ⟨a.block, a.off, P.cellsOf e, congrArg some (hsp hpos), RepE.of_get _ _ fun j c hj => ?_⟩
      rw [List.getElem?_ofFn] at hj
      split at hj
      · cases hj
        rename_i hjl
        obtain ⟨ws, h1, h2, h3, h4⟩ := (each ⟨j, hjl⟩).choose_spec
        refine ⟨by rw [← h1.length]; exact h3, RepC.of_get _ _ fun i x hx => ?_⟩
        obtain ⟨u, hu, ho, hr⟩ := h1.get hx
        have hcell := h4 i u hu
        rw [hsp hpos, add_plain'] at hcell
        rw [← Nat.add_assoc] at hcell
        exact ⟨u, ⟨u, hcell⟩, hcell, ho, hr⟩
      · cases hj
    · obtain ⟨j, rfl⟩ := List.mem_ofFn.1 hc
      obtain ⟨ws, h1, h2, h3, h4⟩ := (each j).choose_spec
      exact h2
/-- fields, one behind the other -/
def Cats : List (List V → Prop) → List V → Prop
  | [], l => l = []
  | G :: Gs, l => ∃ a b, l = a ++ b ∧ G a ∧ Cats Gs b
def Flds (P : Program) (w : World) (n : Nat) : Nat → List Field → List (List V → Prop) → Prop
  | _, [], [] => True
  | o, f :: fs, G :: Gs => f.offset = o ∧ OpV P w n f.type G ∧ Flds P w n (o + P.cellsOf f.type) fs Gs
  | _, _, _ => False
def total (P : Program) : List Field → Nat
  | [] => 0
  | f :: fs => P.cellsOf f.type + total P fs
theorem flds_rep {P : Program} {w : World} {n : Nat} {H : Type} {enc : TypeId × Value → H} {cs : List Value} : ∀ (fs : List Field) (Gs : List (List V → Prop)) (o : Nat), Flds P w n o fs Gs → (∀ f ∈ fs, ∃ m y, m ≤ n ∧ DataW.trod enc P w 0 (fun _ => true) true m f.type ((cs.drop f.offset).take (P.cellsOf f.type)) = some y) → cs.length = o + total P fs → ∃ l, RepL w (Lall w) l (cs.drop o) ∧ Cats Gs l
  | [], [], o, _, _, hl => ⟨[], by rw [total] at hl; rw [List.drop_of_length_le (by omega)]; rfl, rfl⟩
  | [], _ :: _, _, h, _, _ => h.elim
  | _ :: _, [], _, h, _, _ => h.elim
  | f :: fs, G :: Gs, o, ⟨ho, hG, hr⟩, ht, hl => by
    obtain ⟨m, y, hm, hy⟩ := ht f List.mem_cons_self
    obtain ⟨a, ra, ga⟩ := hG H enc m hm _ _ hy
    rw [total] at hl
    obtain ⟨b, rb, gb⟩ := flds_rep fs Gs (o + P.cellsOf f.type) hr (fun f' hf' => ht f' (List.mem_cons_of_mem _ hf')) (by omega)
    refine ⟨a ++ b, ?_, a, b, rfl, ga, gb⟩
    rw [ho] at ra
    have := ra.append rb
    rwa [show List.drop (o + P.cellsOf f.type) cs = (cs.drop o).drop (P.cellsOf f.type) by rw [List.drop_drop], List.take_append_drop] at this
theorem opV_struct {P : Program} {w : World} {n : Nat} {t : TypeId} {fs : Array Field} {Gs : List (List V → Prop)} (ht : P.underlying t = some (.struct fs)) (hc : P.cellsOf t = total P fs.toList) (hf : Flds P w n 0 fs.toList Gs) : OpV P w (n + 1) t (Cats Gs) := by
  intro H enc fuel hfu cs y h
  obtain ⟨xs, m, hm, _, hl, hx, hg⟩ := DataW.trod_struct ht h
  have := flds_rep (P := P) (w := w) (n := n) (enc := enc) (cs := cs) fs.toList Gs 0 hf (fun f hf => by
    obtain ⟨i, hi, rfl⟩ := List.mem_iff_getElem.1 hf
    have h1 := hg i fs.toList[i] (by rw [← Array.getElem?_toList, List.getElem?_eq_getElem hi])
    have hi' : i < xs.length := by rw [hx]; simpa using hi
    rw [List.getElem?_eq_getElem hi'] at h1
    exact ⟨m, _, by omega, h1⟩) (by rw [hl, hc, Nat.zero_add])
  simpa using this
/-- what comes in is a value -/
theorem opV_arg {P : Program} {w : World} {t : TypeId} {G : List V → Prop} (h : ∀ n, OpV P w n t G) {H : Type} {enc : TypeId × Value → H} {v : Value} {d : DataW H} {ps : List MemPlace} (ht : DataW.Trod enc P w 0 (fun _ => true) true t v d ps) : ∃ l, RepL w (Lall w) l v.cells.toList ∧ G l := by
  obtain ⟨fuel, hf⟩ := ht
  exact h fuel H enc fuel (Nat.le_refl _) _ _ hf
end Go.Proofs.YtiafggoaedifdaaGreatDoor
/- filt, cards: what reads of a filter's type is a filter. -/
namespace Go.Proofs.YtiafggoaedifdaaGreatDoor.Fi
open Go.RowKit Fl
set_option linter.unusedVariables false
def GFlt : List V → Prop := fun l => ∃ f : Flt, l = cF f
theorem gstrs : ∀ xs : List (List V), (∀ c ∈ xs, GStr c) → ∃ a : List ByteArray, xs = a.map encS
  | [], _ => ⟨[], rfl⟩
  | c :: r, h => by
    obtain ⟨s, hs⟩ := h c List.mem_cons_self
    obtain ⟨a, ha⟩ := gstrs r (fun c hc => h c (List.mem_cons_of_mem _ hc))
    exact ⟨s :: a, by rw [hs, ha]; rfl⟩
theorem gflts : ∀ xs : List (List V), (∀ c ∈ xs, GFlt c) → ∃ a : List Flt, xs = cFs a
  | [], _ => ⟨[], rfl⟩
  | c :: r, h => by
    obtain ⟨s, hs⟩ := h c List.mem_cons_self
    obtain ⟨a, ha⟩ := gflts r (fun c hc => h c (List.mem_cons_of_mem _ hc))
    exact ⟨s :: a, by rw [hs, ha]; rfl⟩
theorem opV_filter (w : World) : ∀ n, OpV Tryz.prog w n 25 GFlt
  | 0 => fun H enc fuel hf cs y h => by
    obtain rfl : fuel = 0 := by omega
    simp [DataW.trod] at h
  | 1 => fun H enc fuel hf cs y h => by
    obtain ⟨xs, m, hm, _, hl, hx, hg⟩ := DataW.trod_struct Tryz.underlying25 h
    obtain rfl : m = 0 := by omega
    have := hg 0 _ rfl
    rw [List.getElem?_eq_getElem (by rw [hx]; decide)] at this
    simp [DataW.trod] at this
  | n + 2 => by
    have ih := opV_filter w n
    have hs := opV_struct (w := w) (n := n + 1) (Gs := [GInt .i64, GStr, GStr, GSl GStr, GStr, GSl GFlt]) Tryz.underlying25 (by kernel_rfl)
      ⟨rfl, opV_int Tryz.underlying3, by kernel_rfl, opV_str Tryz.underlying9, by kernel_rfl, opV_str Tryz.underlying9, by kernel_rfl, opV_slice Tryz.underlying22 (of_decide_eq_true (by kernel_rfl)) (opV_str Tryz.underlying9), by kernel_rfl, opV_str Tryz.underlying9, by kernel_rfl, opV_slice Tryz.underlying23 (of_decide_eq_true (by kernel_rfl)) ih, trivial⟩
    refine hs.imp fun l h => ?_
    obtain ⟨_, _, rfl, ⟨k, rfl, _⟩, _, _, rfl, ⟨n1, rfl⟩, _, _, rfl, ⟨v1, rfl⟩, _, _, rfl, ⟨xs, rfl, hxs⟩, _, _, rfl, ⟨f1, rfl⟩, _, _, rfl, ⟨ys, rfl, hys⟩, rfl⟩ := h
    obtain ⟨a, rfl⟩ := gstrs xs hxs
    obtain ⟨m, rfl⟩ := gflts ys hys
    exact ⟨.mk k n1 v1 a f1 m, rfl⟩
theorem filter_rep {w : World} {f : Flt} {cs : Array Value} (h : RepL w (Lall w) (cF f) (Value.agg cs).cells.toList) : Rep w (Lall w) (.agg (cG f)) (.agg cs) := ⟨cs, rfl, by rw [← cG_eq]; exact h⟩
end Go.Proofs.YtiafggoaedifdaaGreatDoor.Fi
