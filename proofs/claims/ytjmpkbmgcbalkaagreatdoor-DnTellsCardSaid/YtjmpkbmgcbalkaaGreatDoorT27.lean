/- Several texts, one behind the other. Cards: what reads of a struct's type is its fields, one behind the other; whatever program. dn, cards: what reads of a name's type is a name. -/
import Derived.Test.YtjmpkbmgcbalkaaGreatDoorT24
import Derived.ChangeArms
import Derived.Test.YtjmpkbmgcbalkaaGreatDoorT25
/- Cards: what reads of a struct's type is its fields, one behind the other; whatever program. -/
namespace Go.Proofs.YtjmpkbmgcbalkaaGreatDoor
open Go.RowKit
set_option linter.unusedVariables false
theorem opens_struct1 {P : Program} {α : Type} {w : World} {R : View α} {G : α → Prop} {t : TypeId} {f : Field} (ht : P.underlying t = some (.struct #[f])) (hc : P.cellsOf t = P.cellsOf f.type) (ho : f.offset = 0) (he : Opens P w R G f.type) : Opens P w R G t := by
  intro H enc fuel cs y h
  obtain ⟨xs, n, _, _, hl, hx, hf⟩ := DataW.trod_struct ht h
  have h0 := hf 0 f rfl
  rw [ho, List.drop_zero, List.take_of_length_le (by omega)] at h0
  have hxs : 0 < xs.length := by rw [hx]; exact Nat.one_pos
  rw [List.getElem?_eq_getElem hxs] at h0
  exact he H enc n cs _ h0
theorem opens_struct2 {P : Program} {α β : Type} {w : World} {R : View α} {G : α → Prop} {R' : View β} {G' : β → Prop} {t : TypeId} {f f' : Field} (ht : P.underlying t = some (.struct #[f, f'])) (hc : P.cellsOf t = P.cellsOf f.type + P.cellsOf f'.type) (ho : f.offset = 0) (ho' : f'.offset = P.cellsOf f.type) (he : Opens P w R G f.type) (he' : Opens P w R' G' f'.type) : Opens P w (VCat R R') (fun x => G x.1 ∧ G' x.2) t := by
  intro H enc fuel cs y h
  obtain ⟨xs, n, _, _, hl, hx, hf⟩ := DataW.trod_struct ht h
  have h0 := hf 0 f rfl
  have h1 := hf 1 f' rfl
  rw [ho, List.drop_zero] at h0
  rw [ho', List.take_of_length_le (by rw [List.length_drop]; omega)] at h1
  have hx0 : 0 < xs.length := by rw [hx]; exact Nat.two_pos
  have hx1 : 1 < xs.length := by rw [hx]; exact Nat.lt_succ_self 1
  rw [List.getElem?_eq_getElem hx0] at h0
  rw [List.getElem?_eq_getElem hx1] at h1
  obtain ⟨a, ha, ga⟩ := he H enc n _ _ h0
  obtain ⟨b, hb, gb⟩ := he' H enc n _ _ h1
  exact ⟨(a, b), ⟨_, _, (List.take_append_drop _ _).symm, ha, hb⟩, ga, gb⟩
end Go.Proofs.YtjmpkbmgcbalkaaGreatDoor
/- dn, cards: what reads of a name's type is a name. -/
namespace Go.Proofs.YtjmpkbmgcbalkaaGreatDoor.Dn
open Go.RowKit
set_option linter.unusedVariables false
theorem ava_rep {w : World} (a : Ava) (cs : List Value) (h : VAva w (fun _ => True) cs a) : RepL w (Lall w) (cAva a) cs := by
  rw [VAva.cells h]
  exact ⟨_, _, rfl, rfl, rfl, _, _, rfl, rfl, rfl, rfl⟩
theorem rdn_rep {w : World} (r : Rdn) (cs : List Value) (h : VRdn w (fun _ => True) cs r) : RepL w (Lall w) (cRdn r) cs := by
  obtain ⟨A, n, c, rfl⟩ := h.cells
  exact ⟨_, _, rfl, rfl, view_rep (k := 2) (enc := cAva) ava_rep (fun _ => rfl) h, rfl⟩
theorem name_rep {w : World} {d : Name} {v : Value} (h : VName w (fun _ => True) [v] d) : Rep w (Lall w) (vName d) v := view_rep (k := 1) (enc := cRdn) rdn_rep (fun _ => rfl) h
theorem opens_ava (w : World) : Opens Tryz.prog w VAva (fun _ => True) 39 := fun H enc fuel cs y h =>
  let ⟨x, hx, _⟩ := opens_struct2 (P := Tryz.prog) (R := VStr) (R' := VStr) Tryz.underlying39 (by kernel_rfl) rfl (by kernel_rfl) (opens_str Tryz.underlying9) (opens_str Tryz.underlying9) H enc fuel cs y h
  ⟨x, hx, trivial⟩
theorem opens_rdn (w : World) : Opens Tryz.prog w VRdn (fun _ => True) 42 := fun H enc fuel cs y h =>
  let ⟨x, hx, _⟩ := opens_struct1 (P := Tryz.prog) (R := VRdn) Tryz.underlying42 (by kernel_rfl) rfl (opens_slice VAva.ok (by kernel_rfl) (by decide) Tryz.underlying40 (opens_ava w)) H enc fuel cs y h
  ⟨x, hx, trivial⟩
theorem opens_name (w : World) : Opens Tryz.prog w VName (fun _ => True) 22 := fun H enc fuel cs y h =>
  let ⟨x, hx, _⟩ := opens_slice (P := Tryz.prog) (R := VRdn) VRdn.ok (by kernel_rfl) (by decide) Tryz.underlying22 (opens_rdn w) H enc fuel cs y h
  ⟨x, hx, trivial⟩
end Go.Proofs.YtjmpkbmgcbalkaaGreatDoor.Dn
