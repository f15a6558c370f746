/- frame.(*buffer).long. Conditions: the shape of memory that each theorem names. -/
import Derived.Test.YtglmnglaliljdaaDoorFrameC
namespace Go.Proofs.YtglmnglaliljdaaDoor.Frame
open Go.RowKit Size
set_option linter.unusedVariables false
/-- the first bytes of a list, as a text -/
def hdr (l : List UInt8) : ByteArray := ⟨(l.take 6).toArray⟩
theorem strOf (l : List UInt8) : strOfNums (l.map fun x => (x.toNat : Int)) = ⟨l.toArray⟩ := by
  unfold strOfNums
  have h : (l.map fun x => (x.toNat : Int)).map (fun n => UInt8.ofNat n.toNat) = l := by
    rw [List.map_map]
    conv => rhs; rw [← List.map_id l]
    apply List.map_congr_left
    intro x _
    show UInt8.ofNat ((x.toNat : Int)).toNat = x
    rw [Int.toNat_natCast, UInt8.ofNat_toNat]
  rw [h]
theorem RB.str {w : World} {av : Nat → Prop} {A : Option Addr} {n c : Nat} {l : List UInt8} (hn : n = l.length) (hx : l ≠ [] → ∃ b o, A = some ⟨b, o, none⟩ ∧ av b ∧ ∀ j u, l[j]? = some u → w.cell? ⟨b, o + j, none⟩ = some (.int .u8 u.toNat)) :
    (convert 45 9 (.slice A n c)).run Tryd.prog w = .ok (.string ⟨l.toArray⟩) w := by
  subst hn
  by_cases hl : l = []
  · subst hl
    cases A with
    | none => exact run_convert_bytes_nil w 45 5 Tryd.underlying45 Tryd.underlying5 0 c 9 Tryd.underlying9
    | some ad =>
      obtain ⟨b, o, s⟩ := ad
      rw [run_convert_bytes_string w 45 9 5 _ _ _ Tryd.underlying45 Tryd.underlying5 Tryd.underlying9]
      rfl
  · obtain ⟨b, o, rfl, _, hc⟩ := hx hl
    rw [← strOf]
    refine run_convert_bytes_arg w 45 5 Tryd.underlying45 Tryd.underlying5 b o l.length c _ (by simp) (fun i hi => ?_) 9 Tryd.underlying9
    rw [hc i l[i] (List.getElem?_eq_getElem hi)]
    simp [List.getD_eq_getElem?_getD, List.getElem?_eq_getElem hi]
/-- how long the piece is with which some bytes begin, and what is wrong (1: not whole) -/
def longOf (l : List UInt8) : Int × Int :=
  if l = [] then (0, 1) else
  if bt (hdr l) 0 ≠ 48 then (0, 20) else
  if (dec (hdr l) 1).2.2 = 0 then (if (dec (hdr l) 1).1 ≤ 4000 then ((dec (hdr l) 1).2.1 + (dec (hdr l) 1).1, 0) else (0, 131)) else
  if (dec (hdr l) 1).2.2 = 12 then (0, 131) else
  if (dec (hdr l) 1).2.2 = 11 then (0, 11) else (0, 1)
/-- the error of a number, at a place -/
def errOf (p : Nat → Addr) (a c : Int) : Value :=
  if c = 0 then .nilIface else .iface 62 (.agg #[.int .i64 a, .iface 120 (.pointer (some (p
    (if c = 20 then 0 else if c = 11 then 1 else if c = 131 then 2 else 3))))])
set_option maxRecDepth 100000 in
set_option maxHeartbeats 1000000 in
theorem long_empty {w : World} {av : Nat → Prop} {f : Nat} {l : List UInt8} {a c : Int} {p : Nat → Addr} (h : FS w av f l a c p) (hG : Globs w p) (hl : l = []) :
    Calls Tryd.prog 30 #[.pointer (some ⟨f, 0, none⟩)] w fun e w' => e = .returned (.tuple #[.int .i64 (0), errOf p a 1]) ∧ Below w.heap.size w w' := by
  obtain ⟨v, ev, hb, ⟨A, cp, rfl, hc, hcm, hx⟩, he⟩ := h
  have c0 : w.cell? ⟨f, 0, none⟩ = some (.slice A l.length cp) := cel hb 0 rfl
  have c1 : w.cell? ⟨f, 1, none⟩ = some (.int .i64 a) := cel hb 1 rfl
  have q1 : ((l.length : Int) == 0) = true := by simp [hl]
  have k0 := hG.cell 3 (by decide)
  clear hb hx he hl
  go_enter Tryd.func30, Tryd.ntmps30
  go_wp2
  go_quiet (fail)
  go_wp2
  go_ret2
  exact ⟨rfl, below_drewN _ _⟩
set_option maxRecDepth 100000 in
set_option maxHeartbeats 1000000 in
theorem long_tag {w : World} {av : Nat → Prop} {f : Nat} {l : List UInt8} {a c : Int} {p : Nat → Addr} (h : FS w av f l a c p) (hG : Globs w p) (u : UInt8) (r : List UInt8) (hl : l = u :: r) (hu : u ≠ 48) :
    Calls Tryd.prog 30 #[.pointer (some ⟨f, 0, none⟩)] w fun e w' => e = .returned (.tuple #[.int .i64 (0), errOf p a 20]) ∧ Below w.heap.size w w' := by
  obtain ⟨v, ev, hb, ⟨A, cp, rfl, hc, hcm, hx⟩, he⟩ := h
  have c0 : w.cell? ⟨f, 0, none⟩ = some (.slice A l.length cp) := cel hb 0 rfl
  have c1 : w.cell? ⟨f, 1, none⟩ = some (.int .i64 a) := cel hb 1 rfl
  have q1 : ((l.length : Int) == 0) = false := by simp [hl]; omega
  obtain ⟨b, o, rfl, _, hcl⟩ := hx (by simp [hl])
  have cb : w.cell? ⟨b, o, none⟩ = some (.int .u8 u.toNat) := hcl 0 u (by simp [hl])
  have hlen : 0 < l.length := by simp [hl]
  have q2 : ((u.toNat : Int) != 48) = true := by
    simp only [bne_iff_ne, ne_eq]
    intro e
    exact hu (UInt8.toNat_inj.1 (by show u.toNat = 48; omega))
  have k0 := hG.cell 0 (by decide)
  clear hb hcl hx he hl hu
  go_enter Tryd.func30, Tryd.ntmps30
  go_wp2
  go_quiet (fail)
  go_wp2
  go_ret2
  exact ⟨rfl, below_drewN _ _⟩
set_option maxRecDepth 100000 in
set_option maxHeartbeats 1000000 in
theorem long_ok {w : World} {av : Nat → Prop} {f : Nat} {l : List UInt8} {a c : Int} {p : Nat → Addr} (h : FS w av f l a c p) (hG : Globs w p) (u : UInt8) (r : List UInt8) (hl : l = u :: r) (hu : u = 48) (n nx ec : Int) (hd : ∀ W : World, Globs W p → Calls Tryd.prog 41 #[.string (hdr l), .int .i64 1] W fun e w' => e = .returned (.tuple #[.int .i64 n, .int .i64 nx, .int .i64 ec]) ∧ Below W.heap.size W w') (hec : ec = 0) (hn : n ≤ 4000) (hn0 : 0 ≤ n) (hnx : 0 ≤ nx) (hnx2 : nx ≤ 100) :
    Calls Tryd.prog 30 #[.pointer (some ⟨f, 0, none⟩)] w fun e w' => e = .returned (.tuple #[.int .i64 (nx + n), errOf p a 0]) ∧ Below w.heap.size w w' := by
  obtain ⟨v, ev, hb, ⟨A, cp, rfl, hc, hcm, hx⟩, he⟩ := h
  have c0 : w.cell? ⟨f, 0, none⟩ = some (.slice A l.length cp) := cel hb 0 rfl
  have c1 : w.cell? ⟨f, 1, none⟩ = some (.int .i64 a) := cel hb 1 rfl
  have q1 : ((l.length : Int) == 0) = false := by simp [hl]; omega
  obtain ⟨b, o, rfl, hav, hcl⟩ := hx (by simp [hl])
  have cb : w.cell? ⟨b, o, none⟩ = some (.int .u8 u.toNat) := hcl 0 u (by simp [hl])
  have hlen : 0 < l.length := by simp [hl]
  have q2 : ((u.toNat : Int) != 48) = false := by rw [hu]; rfl
  subst hec
  have hconv : ∀ W : World, (∀ ad v, w.cell? ad = some v → W.cell? ad = some v) → (convert 45 9 (.slice (some ⟨b, o, none⟩) (min l.length 6) cp)).run Tryd.prog W = .ok (.string (hdr l)) W := fun W hW =>
    RB.str (w := W) (av := fun _ => True) (l := l.take 6) (by rw [List.length_take]; omega) (fun _ => ⟨b, o, rfl, trivial, fun j u hu => by
      rw [List.getElem?_take] at hu
      split at hu
      · exact hW _ _ (hcl j u hu)
      · cases hu⟩)
  have hc0 := hconv w.drew fun ad v h => h
  have HC := Aside.mk (hd w.drew (hG.below (below_drew w)))
  have HG := Aside.mk hG
  clear hb hcl hx he hl hu hd hG
  by_cases h6 : l.length ≤ 6
  · have e6 : min l.length 6 = l.length := by omega
    rw [e6] at hconv hc0
    clear e6
    have HV := Aside.mk hconv
    clear hconv
    have HM : Aside ((if (6 : Int) < (l.length : Int) then (6 : Int) else (l.length : Int)) = (l.length : Int)) := Aside.mk (if_neg (by omega))
    have z4 : (0 : Int) ≤ (l.length : Int) := by omega
    have z5 : (l.length : Int) ≤ (cp : Int) := by omega
    go_enter Tryd.func30, Tryd.ntmps30
    go_wp2
    go_region_held3 (fun w' => w'.cell? ⟨f, 0, none⟩ = some (.slice (some ⟨b, o, none⟩) l.length cp) ∧ (convert 45 9 (.slice (some ⟨b, o, none⟩) l.length cp)).run Tryd.prog w' = .ok (.string (hdr l)) w') (first | exact ⟨c0, hc0⟩ | exact ⟨e0, hc1⟩)
      (first
        | (go_at_call 41; refine HC.out.mono ?_; rintro e w1 ⟨rfl, hb⟩; have H1 := Aside.mk (below_then (below_drew w) hb); have e0 := cell_below c0 H1.out; have e1 := cell_below c1 H1.out; have e2 := HG.out.below H1.out; have hc1 := HV.out w1 (fun ad v h => cell_below h H1.out); clear hb)
        | (go_simp; rw [HM.out]))
    all_goals
      (clear e0 c0 c1 cb hc0 hc1
       go_wp2
       go_ret2
       exact ⟨rfl, H1.out⟩)
  · have e6 : min l.length 6 = 6 := by omega
    rw [e6] at hconv hc0
    clear e6
    have HV := Aside.mk hconv
    clear hconv
    have HM : Aside ((if (6 : Int) < (l.length : Int) then (6 : Int) else (l.length : Int)) = 6) := Aside.mk (if_pos (by omega))
    have z5 : (6 : Int) ≤ (cp : Int) := by omega
    have z3 : (6 : Int) < (l.length : Int) := by omega
    go_enter Tryd.func30, Tryd.ntmps30
    go_wp2
    go_region_held3 (fun w' => w'.cell? ⟨f, 0, none⟩ = some (.slice (some ⟨b, o, none⟩) l.length cp) ∧ (convert 45 9 (.slice (some ⟨b, o, none⟩) 6 cp)).run Tryd.prog w' = .ok (.string (hdr l)) w') (first | exact ⟨c0, hc0⟩ | exact ⟨e0, hc1⟩)
      (first
        | (go_at_call 41; refine HC.out.mono ?_; rintro e w1 ⟨rfl, hb⟩; have H1 := Aside.mk (below_then (below_drew w) hb); have e0 := cell_below c0 H1.out; have e1 := cell_below c1 H1.out; have e2 := HG.out.below H1.out; have hc1 := HV.out w1 (fun ad v h => cell_below h H1.out); clear hb)
        | (go_simp; rw [HM.out]))
    all_goals
      (clear e0 c0 c1 cb hc0 hc1
       go_wp2
       go_ret2
       exact ⟨rfl, H1.out⟩)

set_option maxRecDepth 100000 in
set_option maxHeartbeats 1000000 in
theorem long_large {w : World} {av : Nat → Prop} {f : Nat} {l : List UInt8} {a c : Int} {p : Nat → Addr} (h : FS w av f l a c p) (hG : Globs w p) (u : UInt8) (r : List UInt8) (hl : l = u :: r) (hu : u = 48) (n nx ec : Int) (hd : ∀ W : World, Globs W p → Calls Tryd.prog 41 #[.string (hdr l), .int .i64 1] W fun e w' => e = .returned (.tuple #[.int .i64 n, .int .i64 nx, .int .i64 ec]) ∧ Below W.heap.size W w') (hec : ec = 0) (hn : 4000 < n) :
    Calls Tryd.prog 30 #[.pointer (some ⟨f, 0, none⟩)] w fun e w' => e = .returned (.tuple #[.int .i64 (0), errOf p a 131]) ∧ Below w.heap.size w w' := by
  obtain ⟨v, ev, hb, ⟨A, cp, rfl, hc, hcm, hx⟩, he⟩ := h
  have c0 : w.cell? ⟨f, 0, none⟩ = some (.slice A l.length cp) := cel hb 0 rfl
  have c1 : w.cell? ⟨f, 1, none⟩ = some (.int .i64 a) := cel hb 1 rfl
  have q1 : ((l.length : Int) == 0) = false := by simp [hl]; omega
  obtain ⟨b, o, rfl, hav, hcl⟩ := hx (by simp [hl])
  have cb : w.cell? ⟨b, o, none⟩ = some (.int .u8 u.toNat) := hcl 0 u (by simp [hl])
  have hlen : 0 < l.length := by simp [hl]
  have q2 : ((u.toNat : Int) != 48) = false := by rw [hu]; rfl
  subst hec
  have hconv : ∀ W : World, (∀ ad v, w.cell? ad = some v → W.cell? ad = some v) → (convert 45 9 (.slice (some ⟨b, o, none⟩) (min l.length 6) cp)).run Tryd.prog W = .ok (.string (hdr l)) W := fun W hW =>
    RB.str (w := W) (av := fun _ => True) (l := l.take 6) (by rw [List.length_take]; omega) (fun _ => ⟨b, o, rfl, trivial, fun j u hu => by
      rw [List.getElem?_take] at hu
      split at hu
      · exact hW _ _ (hcl j u hu)
      · cases hu⟩)
  have hc0 := hconv w.drew fun ad v h => h
  have HC := Aside.mk (hd w.drew (hG.below (below_drew w)))
  have HG := Aside.mk hG
  clear hb hcl hx he hl hu hd hG
  by_cases h6 : l.length ≤ 6
  · have e6 : min l.length 6 = l.length := by omega
    rw [e6] at hconv hc0
    clear e6
    have HV := Aside.mk hconv
    clear hconv
    have HM : Aside ((if (6 : Int) < (l.length : Int) then (6 : Int) else (l.length : Int)) = (l.length : Int)) := Aside.mk (if_neg (by omega))
    have z4 : (0 : Int) ≤ (l.length : Int) := by omega
    have z5 : (l.length : Int) ≤ (cp : Int) := by omega
    go_enter Tryd.func30, Tryd.ntmps30
    go_wp2
    go_region_held3 (fun w' => w'.cell? ⟨f, 0, none⟩ = some (.slice (some ⟨b, o, none⟩) l.length cp) ∧ (convert 45 9 (.slice (some ⟨b, o, none⟩) l.length cp)).run Tryd.prog w' = .ok (.string (hdr l)) w') (first | exact ⟨c0, hc0⟩ | exact ⟨e0, hc1⟩)
      (first
        | (go_at_call 41; refine HC.out.mono ?_; rintro e w1 ⟨rfl, hb⟩; have H1 := Aside.mk (below_then (below_drew w) hb); have e0 := cell_below c0 H1.out; have e1 := cell_below c1 H1.out; have e2 := HG.out.below H1.out; have hc1 := HV.out w1 (fun ad v h => cell_below h H1.out); clear hb)
        | (go_simp; rw [HM.out]))
    all_goals
      (have k0 := e2.cell 2 (by decide)
       clear c0 c1 cb hc0 hc1
       go_wp2
       go_quiet (fail)
       go_wp2
       go_ret2
       exact ⟨rfl, below_then H1.out (below_drewN _ _)⟩)
  · have e6 : min l.length 6 = 6 := by omega
    rw [e6] at hconv hc0
    clear e6
    have HV := Aside.mk hconv
    clear hconv
    have HM : Aside ((if (6 : Int) < (l.length : Int) then (6 : Int) else (l.length : Int)) = 6) := Aside.mk (if_pos (by omega))
    have z5 : (6 : Int) ≤ (cp : Int) := by omega
    have z3 : (6 : Int) < (l.length : Int) := by omega
    go_enter Tryd.func30, Tryd.ntmps30
    go_wp2
    go_region_held3 (fun w' => w'.cell? ⟨f, 0, none⟩ = some (.slice (some ⟨b, o, none⟩) l.length cp) ∧ (convert 45 9 (.slice (some ⟨b, o, none⟩) 6 cp)).run Tryd.prog w' = .ok (.string (hdr l)) w') (first | exact ⟨c0, hc0⟩ | exact ⟨e0, hc1⟩)
      (first
        | (go_at_call 41; refine HC.out.mono ?_; rintro e w1 ⟨rfl, hb⟩; have H1 := Aside.mk (below_then (below_drew w) hb); have e0 := cell_below c0 H1.out; have e1 := cell_below c1 H1.out; have e2 := HG.out.below H1.out; have hc1 := HV.out w1 (fun ad v h => cell_below h H1.out); clear hb)
        | (go_simp; rw [HM.out]))
    all_goals
      (have k0 := e2.cell 2 (by decide)
       clear c0 c1 cb hc0 hc1
       go_wp2
       go_quiet (fail)
       go_wp2
       go_ret2
       exact ⟨rfl, below_then H1.out (below_drewN _ _)⟩)

set_option maxRecDepth 100000 in
set_option maxHeartbeats 1000000 in
theorem long_size {w : World} {av : Nat → Prop} {f : Nat} {l : List UInt8} {a c : Int} {p : Nat → Addr} (h : FS w av f l a c p) (hG : Globs w p) (u : UInt8) (r : List UInt8) (hl : l = u :: r) (hu : u = 48) (n nx ec : Int) (hd : ∀ W : World, Globs W p → Calls Tryd.prog 41 #[.string (hdr l), .int .i64 1] W fun e w' => e = .returned (.tuple #[.int .i64 n, .int .i64 nx, .int .i64 ec]) ∧ Below W.heap.size W w') (hec : ec = 12) :
    Calls Tryd.prog 30 #[.pointer (some ⟨f, 0, none⟩)] w fun e w' => e = .returned (.tuple #[.int .i64 (0), errOf p a 131]) ∧ Below w.heap.size w w' := by
  obtain ⟨v, ev, hb, ⟨A, cp, rfl, hc, hcm, hx⟩, he⟩ := h
  have c0 : w.cell? ⟨f, 0, none⟩ = some (.slice A l.length cp) := cel hb 0 rfl
  have c1 : w.cell? ⟨f, 1, none⟩ = some (.int .i64 a) := cel hb 1 rfl
  have q1 : ((l.length : Int) == 0) = false := by simp [hl]; omega
  obtain ⟨b, o, rfl, hav, hcl⟩ := hx (by simp [hl])
  have cb : w.cell? ⟨b, o, none⟩ = some (.int .u8 u.toNat) := hcl 0 u (by simp [hl])
  have hlen : 0 < l.length := by simp [hl]
  have q2 : ((u.toNat : Int) != 48) = false := by rw [hu]; rfl
  subst hec
  have hconv : ∀ W : World, (∀ ad v, w.cell? ad = some v → W.cell? ad = some v) → (convert 45 9 (.slice (some ⟨b, o, none⟩) (min l.length 6) cp)).run Tryd.prog W = .ok (.string (hdr l)) W := fun W hW =>
    RB.str (w := W) (av := fun _ => True) (l := l.take 6) (by rw [List.length_take]; omega) (fun _ => ⟨b, o, rfl, trivial, fun j u hu => by
      rw [List.getElem?_take] at hu
      split at hu
      · exact hW _ _ (hcl j u hu)
      · cases hu⟩)
  have hc0 := hconv w.drew fun ad v h => h
  have HC := Aside.mk (hd w.drew (hG.below (below_drew w)))
  have HG := Aside.mk hG
  clear hb hcl hx he hl hu hd hG
  by_cases h6 : l.length ≤ 6
  · have e6 : min l.length 6 = l.length := by omega
    rw [e6] at hconv hc0
    clear e6
    have HV := Aside.mk hconv
    clear hconv
    have HM : Aside ((if (6 : Int) < (l.length : Int) then (6 : Int) else (l.length : Int)) = (l.length : Int)) := Aside.mk (if_neg (by omega))
    have z4 : (0 : Int) ≤ (l.length : Int) := by omega
    have z5 : (l.length : Int) ≤ (cp : Int) := by omega
    go_enter Tryd.func30, Tryd.ntmps30
    go_wp2
    go_region_held3 (fun w' => w'.cell? ⟨f, 0, none⟩ = some (.slice (some ⟨b, o, none⟩) l.length cp) ∧ (convert 45 9 (.slice (some ⟨b, o, none⟩) l.length cp)).run Tryd.prog w' = .ok (.string (hdr l)) w') (first | exact ⟨c0, hc0⟩ | exact ⟨e0, hc1⟩)
      (first
        | (go_at_call 41; refine HC.out.mono ?_; rintro e w1 ⟨rfl, hb⟩; have H1 := Aside.mk (below_then (below_drew w) hb); have e0 := cell_below c0 H1.out; have e1 := cell_below c1 H1.out; have e2 := HG.out.below H1.out; have hc1 := HV.out w1 (fun ad v h => cell_below h H1.out); clear hb)
        | (go_simp; rw [HM.out]))
    all_goals
      (have k0 := e2.cell 2 (by decide)
       clear c0 c1 cb hc0 hc1
       go_wp2
       go_quiet (fail)
       go_wp2
       go_ret2
       exact ⟨rfl, below_then H1.out (below_drewN _ _)⟩)
  · have e6 : min l.length 6 = 6 := by omega
    rw [e6] at hconv hc0
    clear e6
    have HV := Aside.mk hconv
    clear hconv
    have HM : Aside ((if (6 : Int) < (l.length : Int) then (6 : Int) else (l.length : Int)) = 6) := Aside.mk (if_pos (by omega))
    have z5 : (6 : Int) ≤ (cp : Int) := by omega
    have z3 : (6 : Int) < (l.length : Int) := by omega
    go_enter Tryd.func30, Tryd.ntmps30
    go_wp2
    go_region_held3 (fun w' => w'.cell? ⟨f, 0, none⟩ = some (.slice (some ⟨b, o, none⟩) l.length cp) ∧ (convert 45 9 (.slice (some ⟨b, o, none⟩) 6 cp)).run Tryd.prog w' = .ok (.string (hdr l)) w') (first | exact ⟨c0, hc0⟩ | exact ⟨e0, hc1⟩)
      (first
        | (go_at_call 41; refine HC.out.mono ?_; rintro e w1 ⟨rfl, hb⟩; have H1 := Aside.mk (below_then (below_drew w) hb); have e0 := cell_below c0 H1.out; have e1 := cell_below c1 H1.out; have e2 := HG.out.below H1.out; have hc1 := HV.out w1 (fun ad v h => cell_below h H1.out); clear hb)
        | (go_simp; rw [HM.out]))
    all_goals
      (have k0 := e2.cell 2 (by decide)
       clear c0 c1 cb hc0 hc1
       go_wp2
       go_quiet (fail)
       go_wp2
       go_ret2
       exact ⟨rfl, below_then H1.out (below_drewN _ _)⟩)

set_option maxRecDepth 100000 in
set_option maxHeartbeats 1000000 in
theorem long_form {w : World} {av : Nat → Prop} {f : Nat} {l : List UInt8} {a c : Int} {p : Nat → Addr} (h : FS w av f l a c p) (hG : Globs w p) (u : UInt8) (r : List UInt8) (hl : l = u :: r) (hu : u = 48) (n nx ec : Int) (hd : ∀ W : World, Globs W p → Calls Tryd.prog 41 #[.string (hdr l), .int .i64 1] W fun e w' => e = .returned (.tuple #[.int .i64 n, .int .i64 nx, .int .i64 ec]) ∧ Below W.heap.size W w') (hec : ec = 11) :
    Calls Tryd.prog 30 #[.pointer (some ⟨f, 0, none⟩)] w fun e w' => e = .returned (.tuple #[.int .i64 (0), errOf p a 11]) ∧ Below w.heap.size w w' := by
  obtain ⟨v, ev, hb, ⟨A, cp, rfl, hc, hcm, hx⟩, he⟩ := h
  have c0 : w.cell? ⟨f, 0, none⟩ = some (.slice A l.length cp) := cel hb 0 rfl
  have c1 : w.cell? ⟨f, 1, none⟩ = some (.int .i64 a) := cel hb 1 rfl
  have q1 : ((l.length : Int) == 0) = false := by simp [hl]; omega
  obtain ⟨b, o, rfl, hav, hcl⟩ := hx (by simp [hl])
  have cb : w.cell? ⟨b, o, none⟩ = some (.int .u8 u.toNat) := hcl 0 u (by simp [hl])
  have hlen : 0 < l.length := by simp [hl]
  have q2 : ((u.toNat : Int) != 48) = false := by rw [hu]; rfl
  subst hec
  have hconv : ∀ W : World, (∀ ad v, w.cell? ad = some v → W.cell? ad = some v) → (convert 45 9 (.slice (some ⟨b, o, none⟩) (min l.length 6) cp)).run Tryd.prog W = .ok (.string (hdr l)) W := fun W hW =>
    RB.str (w := W) (av := fun _ => True) (l := l.take 6) (by rw [List.length_take]; omega) (fun _ => ⟨b, o, rfl, trivial, fun j u hu => by
      rw [List.getElem?_take] at hu
      split at hu
      · exact hW _ _ (hcl j u hu)
      · cases hu⟩)
  have hc0 := hconv w.drew fun ad v h => h
  have HC := Aside.mk (hd w.drew (hG.below (below_drew w)))
  have HG := Aside.mk hG
  clear hb hcl hx he hl hu hd hG
  by_cases h6 : l.length ≤ 6
  · have e6 : min l.length 6 = l.length := by omega
    rw [e6] at hconv hc0
    clear e6
    have HV := Aside.mk hconv
    clear hconv
    have HM : Aside ((if (6 : Int) < (l.length : Int) then (6 : Int) else (l.length : Int)) = (l.length : Int)) := Aside.mk (if_neg (by omega))
    have z4 : (0 : Int) ≤ (l.length : Int) := by omega
    have z5 : (l.length : Int) ≤ (cp : Int) := by omega
    go_enter Tryd.func30, Tryd.ntmps30
    go_wp2
    go_region_held3 (fun w' => w'.cell? ⟨f, 0, none⟩ = some (.slice (some ⟨b, o, none⟩) l.length cp) ∧ (convert 45 9 (.slice (some ⟨b, o, none⟩) l.length cp)).run Tryd.prog w' = .ok (.string (hdr l)) w') (first | exact ⟨c0, hc0⟩ | exact ⟨e0, hc1⟩)
      (first
        | (go_at_call 41; refine HC.out.mono ?_; rintro e w1 ⟨rfl, hb⟩; have H1 := Aside.mk (below_then (below_drew w) hb); have e0 := cell_below c0 H1.out; have e1 := cell_below c1 H1.out; have e2 := HG.out.below H1.out; have hc1 := HV.out w1 (fun ad v h => cell_below h H1.out); clear hb)
        | (go_simp; rw [HM.out]))
    all_goals
      (have k0 := e2.cell 1 (by decide)
       clear c0 c1 cb hc0 hc1
       go_wp2
       go_quiet (fail)
       go_wp2
       go_ret2
       exact ⟨rfl, below_then H1.out (below_drewN _ _)⟩)
  · have e6 : min l.length 6 = 6 := by omega
    rw [e6] at hconv hc0
    clear e6
    have HV := Aside.mk hconv
    clear hconv
    have HM : Aside ((if (6 : Int) < (l.length : Int) then (6 : Int) else (l.length : Int)) = 6) := Aside.mk (if_pos (by omega))
    have z5 : (6 : Int) ≤ (cp : Int) := by omega
    have z3 : (6 : Int) < (l.length : Int) := by omega
    go_enter Tryd.func30, Tryd.ntmps30
    go_wp2
    go_region_held3 (fun w' => w'.cell? ⟨f, 0, none⟩ = some (.slice (some ⟨b, o, none⟩) l.length cp) ∧ (convert 45 9 (.slice (some ⟨b, o, none⟩) 6 cp)).run Tryd.prog w' = .ok (.string (hdr l)) w') (first | exact ⟨c0, hc0⟩ | exact ⟨e0, hc1⟩)
      (first
        | (go_at_call 41; refine HC.out.mono ?_; rintro e w1 ⟨rfl, hb⟩; have H1 := Aside.mk (below_then (below_drew w) hb); have e0 := cell_below c0 H1.out; have e1 := cell_below c1 H1.out; have e2 := HG.out.below H1.out; have hc1 := HV.out w1 (fun ad v h => cell_below h H1.out); clear hb)
        | (go_simp; rw [HM.out]))
    all_goals
      (have k0 := e2.cell 1 (by decide)
       clear c0 c1 cb hc0 hc1
       go_wp2
       go_quiet (fail)
       go_wp2
       go_ret2
       exact ⟨rfl, below_then H1.out (below_drewN _ _)⟩)

set_option maxRecDepth 100000 in
set_option maxHeartbeats 1000000 in
theorem long_more {w : World} {av : Nat → Prop} {f : Nat} {l : List UInt8} {a c : Int} {p : Nat → Addr} (h : FS w av f l a c p) (hG : Globs w p) (u : UInt8) (r : List UInt8) (hl : l = u :: r) (hu : u = 48) (n nx ec : Int) (hd : ∀ W : World, Globs W p → Calls Tryd.prog 41 #[.string (hdr l), .int .i64 1] W fun e w' => e = .returned (.tuple #[.int .i64 n, .int .i64 nx, .int .i64 ec]) ∧ Below W.heap.size W w') (hec : ec = 10) :
    Calls Tryd.prog 30 #[.pointer (some ⟨f, 0, none⟩)] w fun e w' => e = .returned (.tuple #[.int .i64 (0), errOf p a 1]) ∧ Below w.heap.size w w' := by
  obtain ⟨v, ev, hb, ⟨A, cp, rfl, hc, hcm, hx⟩, he⟩ := h
  have c0 : w.cell? ⟨f, 0, none⟩ = some (.slice A l.length cp) := cel hb 0 rfl
  have c1 : w.cell? ⟨f, 1, none⟩ = some (.int .i64 a) := cel hb 1 rfl
  have q1 : ((l.length : Int) == 0) = false := by simp [hl]; omega
  obtain ⟨b, o, rfl, hav, hcl⟩ := hx (by simp [hl])
  have cb : w.cell? ⟨b, o, none⟩ = some (.int .u8 u.toNat) := hcl 0 u (by simp [hl])
  have hlen : 0 < l.length := by simp [hl]
  have q2 : ((u.toNat : Int) != 48) = false := by rw [hu]; rfl
  subst hec
  have hconv : ∀ W : World, (∀ ad v, w.cell? ad = some v → W.cell? ad = some v) → (convert 45 9 (.slice (some ⟨b, o, none⟩) (min l.length 6) cp)).run Tryd.prog W = .ok (.string (hdr l)) W := fun W hW =>
    RB.str (w := W) (av := fun _ => True) (l := l.take 6) (by rw [List.length_take]; omega) (fun _ => ⟨b, o, rfl, trivial, fun j u hu => by
      rw [List.getElem?_take] at hu
      split at hu
      · exact hW _ _ (hcl j u hu)
      · cases hu⟩)
  have hc0 := hconv w.drew fun ad v h => h
  have HC := Aside.mk (hd w.drew (hG.below (below_drew w)))
  have HG := Aside.mk hG
  clear hb hcl hx he hl hu hd hG
  by_cases h6 : l.length ≤ 6
  · have e6 : min l.length 6 = l.length := by omega
    rw [e6] at hconv hc0
    clear e6
    have HV := Aside.mk hconv
    clear hconv
    have HM : Aside ((if (6 : Int) < (l.length : Int) then (6 : Int) else (l.length : Int)) = (l.length : Int)) := Aside.mk (if_neg (by omega))
    have z4 : (0 : Int) ≤ (l.length : Int) := by omega
    have z5 : (l.length : Int) ≤ (cp : Int) := by omega
    go_enter Tryd.func30, Tryd.ntmps30
    go_wp2
    go_region_held3 (fun w' => w'.cell? ⟨f, 0, none⟩ = some (.slice (some ⟨b, o, none⟩) l.length cp) ∧ (convert 45 9 (.slice (some ⟨b, o, none⟩) l.length cp)).run Tryd.prog w' = .ok (.string (hdr l)) w') (first | exact ⟨c0, hc0⟩ | exact ⟨e0, hc1⟩)
      (first
        | (go_at_call 41; refine HC.out.mono ?_; rintro e w1 ⟨rfl, hb⟩; have H1 := Aside.mk (below_then (below_drew w) hb); have e0 := cell_below c0 H1.out; have e1 := cell_below c1 H1.out; have e2 := HG.out.below H1.out; have hc1 := HV.out w1 (fun ad v h => cell_below h H1.out); clear hb)
        | (go_simp; rw [HM.out]))
    all_goals
      (have k0 := e2.cell 3 (by decide)
       clear c0 c1 cb hc0 hc1
       go_wp2
       go_quiet (fail)
       go_wp2
       go_ret2
       exact ⟨rfl, below_then H1.out (below_drewN _ _)⟩)
  · have e6 : min l.length 6 = 6 := by omega
    rw [e6] at hconv hc0
    clear e6
    have HV := Aside.mk hconv
    clear hconv
    have HM : Aside ((if (6 : Int) < (l.length : Int) then (6 : Int) else (l.length : Int)) = 6) := Aside.mk (if_pos (by omega))
    have z5 : (6 : Int) ≤ (cp : Int) := by omega
    have z3 : (6 : Int) < (l.length : Int) := by omega
    go_enter Tryd.func30, Tryd.ntmps30
    go_wp2
    go_region_held3 (fun w' => w'.cell? ⟨f, 0, none⟩ = some (.slice (some ⟨b, o, none⟩) l.length cp) ∧ (convert 45 9 (.slice (some ⟨b, o, none⟩) 6 cp)).run Tryd.prog w' = .ok (.string (hdr l)) w') (first | exact ⟨c0, hc0⟩ | exact ⟨e0, hc1⟩)
      (first
        | (go_at_call 41; refine HC.out.mono ?_; rintro e w1 ⟨rfl, hb⟩; have H1 := Aside.mk (below_then (below_drew w) hb); have e0 := cell_below c0 H1.out; have e1 := cell_below c1 H1.out; have e2 := HG.out.below H1.out; have hc1 := HV.out w1 (fun ad v h => cell_below h H1.out); clear hb)
        | (go_simp; rw [HM.out]))
    all_goals
      (have k0 := e2.cell 3 (by decide)
       clear c0 c1 cb hc0 hc1
       go_wp2
       go_quiet (fail)
       go_wp2
       go_ret2
       exact ⟨rfl, below_then H1.out (below_drewN _ _)⟩)

end Go.Proofs.YtglmnglaliljdaaDoor.Frame
