/- What the rows' condition on the package-level variables gives the walks, and a world that meets it. No conditions. -/
import Derived.Test.YtglmnglaliljdaaDoorRows
import Derived.Test.YtglmnglaliljdaaDoorGlob
import Derived.ChangeSame
import Derived.ChangeVars
import Derived.JoinedOf
import Derived.RowKit
import Derived.RowKitTokens
import Derived.LaidLaws
import Derived.LaidHandle
import Derived.LaidMore
import Derived.ProofKit
import Derived.OpenShut
import Derived.Stop.Joined
import Derived.Stop.LaidErr
namespace Go.Proofs.YtglmnglaliljdaaDoor
open Go.RowKit
set_option linter.unusedVariables false
def senDatum (text : List UInt8) : DataW Unit := .iface "*errors.errorString" (.ptr (.agg [.lit (.string text)]))
theorem sens {P : Program} {W : World} {ti tp te ts : TypeId} {ms : Array (String × TypeId)} {f : Field} (hi : P.underlying ti = some (.interface ms)) (hrow : ∀ u, P.typeName? 3 u = some "*errors.errorString" → u = tp)
    (hp : P.underlying tp = some (.pointer te)) (he : P.underlying te = some (.struct #[f])) (hft : f.type = ts) (hfo : f.offset = 0) (hs : P.underlying ts = some .string) (hc : P.cellsOf te = 1) (hcs : P.cellsOf ts = 1) :
    ∀ (L : List (String × List UInt8 × Nat)) (ps : List MemPlace), DataW.LaidVars P W (L.map fun x => (x.1, senDatum x.2.1)) ps → (∀ x ∈ L, P.globalNamed x.1 = some x.2.2 ∧ (P.globals[x.2.2]?).map (·.type) = some ti) → (L.map (·.2.2)).Nodup → ps.Nodup →
      (∀ b off, MemPlace.cell b off ∈ ps → (∃ c t, W.heap[b]? = some (.cells c t (0, 0))) ∧ ∀ u v, W.cell? ⟨b, off, none⟩ = some (.iface u v) → Value.okWide P W .any 0 u v) →
      ∃ q : Nat → Addr, (∀ x ∈ L, W.cell? ⟨x.2.2, 0, none⟩ = some (.iface tp (.pointer (some (q x.2.2)))) ∧ (∃ c t, W.heap[(q x.2.2).block]? = some (.cells c t (0, 0))) ∧ MemPlace.cell (q x.2.2).block (q x.2.2).off ∈ ps) ∧
        ∀ x ∈ L, ∀ y ∈ L, x.2.2 ≠ y.2.2 → q x.2.2 ≠ q y.2.2
  | [], ps, _, _, _, _, _ => ⟨fun _ => ⟨0, 0, none⟩, fun x h => (by cases h), fun x h => (by cases h)⟩
  | (n, text, g) :: r, ps, h, hg, hn, hnd, hrows => by
    obtain ⟨g', t', cs, fu, p, q, h1, h2, h3, h4, h5, rfl⟩ := h
    obtain ⟨hg1, hg2⟩ := hg _ List.mem_cons_self
    obtain rfl := Option.some.inj (hg1.symm.trans h1)
    obtain rfl := Option.some.inj (hg2.symm.trans h2)
    obtain ⟨l0⟩ := cs
    have ok0 : ∀ u v, l0 = [.iface u v] → Value.okWide P W .any 0 u v := fun u v e => by
      subst e
      exact (hrows g 0 (by simp [MemPlace.row])).2 u v (by simpa using World.var?_cell h1 h3 0)
    obtain ⟨a, s, rfl, hc0, _, _, rfl⟩ := errorString_of_trod hi hrow hp he hft hfo hs hc hcs h4 ok0
    have hnd2 := (List.nodup_append.1 hnd)
    obtain ⟨q', hq1, hq2⟩ := sens hi hrow hp he hft hfo hs hc hcs r q h5 (fun x hx => hg x (List.mem_cons_of_mem _ hx)) (List.nodup_cons.1 hn).2 hnd2.2.1 (fun b off hb => hrows b off (List.mem_append_right _ hb))
    have hgr : ∀ x ∈ r, x.2.2 ≠ g := by
      intro x hx e
      apply (List.nodup_cons.1 hn).1
      show g ∈ r.map (fun x => x.2.2)
      rw [← e]
      exact List.mem_map_of_mem (f := fun x : String × List UInt8 × Nat => x.2.2) hx
    have hin : MemPlace.cell a.block a.off ∈ MemPlace.row ⟨g, 0, none⟩ 1 ++ MemPlace.row a 1 := by simp [MemPlace.row]
    refine ⟨fun k => if k = g then a else q' k, ?_, ?_⟩
    · intro x hx
      rcases List.mem_cons.1 hx with rfl | hx
      · refine ⟨by simpa using World.var?_cell h1 h3 0, ?_, ?_⟩
        · have := (hrows a.block a.off (List.mem_append_left _ hin)).1
          simpa using this
        · have := List.mem_append_left q hin
          simpa using this
      · obtain ⟨c1, c2, c3⟩ := hq1 x hx
        simp only [if_neg (hgr x hx)]
        exact ⟨c1, c2, List.mem_append_right _ c3⟩
    · have far : ∀ x ∈ r, a ≠ q' x.2.2 := by
        intro x hx e
        have c3 := (hq1 x hx).2.2
        rw [← e] at c3
        exact hnd2.2.2 _ hin _ c3 rfl
      intro x hx y hy hne
      rcases List.mem_cons.1 hx with rfl | hx
      · rcases List.mem_cons.1 hy with rfl | hy
        · exact absurd rfl hne
        · simp only [if_neg (hgr y hy)]
          simpa using far y hy
      · rcases List.mem_cons.1 hy with rfl | hy
        · simp only [if_neg (hgr x hx)]
          simpa using (far x hx).symm
        · simp only [if_neg (hgr x hx), if_neg (hgr y hy)]
          exact hq2 x hx y hy hne
def senList : List (String × List UInt8 × Nat) := [("latiner/size.errShort", [116, 111, 111, 32, 115, 104, 111, 114, 116], 5), ("latiner/size.errForm", [110, 111, 32, 108, 101, 110, 103, 116, 104], 6), ("latiner/size.errSize", [116, 111, 111, 32, 103, 114, 101, 97, 116], 4), ("latiner/frame.errTag", [110, 111, 32, 109, 101, 115, 115, 97, 103, 101], 0), ("latiner/frame.errForm", [110, 111, 32, 108, 101, 110, 103, 116, 104], 1), ("latiner/frame.errLarge", [116, 111, 111, 32, 108, 97, 114, 103, 101], 2), ("latiner/frame.errMore", [110, 111, 116, 32, 119, 104, 111, 108, 101], 3)]
theorem own : ownKnob Tryd.prog.godebug = none := by kernel_rfl
theorem rowES (u : TypeId) (h : Tryd.prog.typeName? 3 u = some "*errors.errorString") : u = 120 :=
  typeName_ptr_named (nm := "errors.errorString") (by kernel_rfl) (by kernel_rfl) (by decide) u h
theorem et : Tryd.prog.globalNamed "errors.errorType" = some 7 := by kernel_rfl
theorem rt : (Tryd.prog.cutTypes.find? (·.1 == "internal/reflectlite.rtype")).map (·.2) = some 99 := by kernel_rfl
theorem oneRow : ((List.range Tryd.prog.types.size).filter fun t => Tryd.prog.rowNamed t [101, 114, 114, 111, 114]) = [49] := by kernel_rfl
def laidAll : List (String × DataW Unit) := [("errors.errorType", Rows.laid_errors_errorType), ("latiner/size.errShort", Rows.laid_latiner_size_errShort), ("latiner/size.errForm", Rows.laid_latiner_size_errForm), ("latiner/size.errSize", Rows.laid_latiner_size_errSize), ("latiner/frame.errTag", Rows.laid_latiner_frame_errTag), ("latiner/frame.errForm", Rows.laid_latiner_frame_errForm), ("latiner/frame.errLarge", Rows.laid_latiner_frame_errLarge), ("latiner/frame.errMore", Rows.laid_latiner_frame_errMore)]
theorem filtered : (laidAll.filter fun x => x.2.handleName?.isNone) = senList.map fun x => (x.1, senDatum x.2.1) := by kernel_rfl
theorem handles : (laidAll.filter fun x => x.2.handleName?.isSome) = [("errors.errorType", Rows.laid_errors_errorType)] := by kernel_rfl
theorem senGood : ∀ x ∈ senList, Tryd.prog.globalNamed x.1 = some x.2.2 ∧ (Tryd.prog.globals[x.2.2]?).map (·.type) = some 49 := by
  intro x hx
  have h : senList.all (fun x => (Tryd.prog.globalNamed x.1 == some x.2.2) && ((Tryd.prog.globals[x.2.2]?).map (·.type) == some 49)) = true := by kernel_rfl
  have h1 := List.all_eq_true.1 h x hx
  simp only [Bool.and_eq_true, beq_iff_eq] at h1
  exact h1
theorem globs_of_laid {W : World} (h : laidMetH Tryd.prog laidAll W) : ∃ p, Globs W p := by
  unfold laidMetH at h
  rw [handles, filtered] at h
  obtain ⟨⟨ps, h1, h2, h3⟩, h4⟩ := h
  obtain ⟨q, hq1, hq2⟩ := sens (P := Tryd.prog) Tryd.underlying49 rowES Tryd.underlying120 Tryd.underlying141 rfl rfl Tryd.underlying9 (by kernel_rfl) (by kernel_rfl) senList ps h1 senGood (by decide) h2 h3
  have hin : ∀ g, g ∈ senNums → ∃ x ∈ senList, x.2.2 = g := by decide
  refine ⟨q, ?_, ?_, ?_, ?_⟩
  · intro g hg
    obtain ⟨x, hx, rfl⟩ := hin g hg
    exact (hq1 x hx).1
  · intro g hg
    obtain ⟨x, hx, rfl⟩ := hin g hg
    exact (hq1 x hx).2.1
  · intro g k hg hk hne
    obtain ⟨x, hx, rfl⟩ := hin g hg
    obtain ⟨y, hy, rfl⟩ := hin k hk
    exact hq2 x hx y hy hne
  · obtain ⟨name, u, ty, e1, e2, e3, e4, e5⟩ := h4 _ (List.mem_singleton.2 rfl)
    have en : name = [101, 114, 114, 111, 114] := (Option.some.inj e1).symm
    subst en
    obtain rfl := Option.some.inj (rt.symm.trans e2)
    have hm : ty ∈ (List.range Tryd.prog.types.size).filter fun t => Tryd.prog.rowNamed t [101, 114, 114, 111, 114] := List.mem_filter.2 ⟨List.mem_range.2 e3, e4⟩
    rw [oneRow] at hm
    obtain rfl := List.mem_singleton.1 hm
    have hh : typeHandle Tryd.prog 49 = .pointer (some ⟨8, 49, none⟩) := by kernel_rfl
    rw [hh] at e5
    simpa using World.var?_cell et e5 0
theorem door_met (os : Os) (args : Array Value) : laidMetH Tryd.prog laidAll ((World.doorLaid Tryd.prog 400 os).forCall (fun _ _ => 0) ⟨#[], args, []⟩).memory :=
  laidMetH_of_parts3 (fuel := 8) (laidMet_of_run' 8 (by kernel_rfl) (by kernel_rfl)) (by kernel_rfl) (by kernel_rfl)
end Go.Proofs.YtglmnglaliljdaaDoor
