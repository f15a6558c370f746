/- Several texts, one behind the other. errors.Is at an error of the package Dn that wraps the package's sentinel, against a sentinel: true just if it is that one (Go's text is walked). No conditions beyond the shape of memory that each theorem names. dn.told: the number of an error of the package dn. Conditions: the package's variable holds its sentinel. dn: names as values without memory; the contracts of dn's functions in that way of telling. Conditions: as in these contracts. latinerref07, walked: a text's pieces, and the part of a piece. Conditions: texts of at most 10^6 bytes. dn's laws: a name cut to its first ten parts, each to its first five pairs, each to 21 and 61 bytes. No conditions. dn: a name's text. Conditions: at most 1000 parts of at most 100 pairs, types and values of at most 1000 bytes. latinerref07, walked: which names are right, the same, under each other. Conditions: at most 10^6 parts of at most 10^6 pairs, texts of at most 10^6 bytes. dn: the walk over a text's pieces, as an iterator without memory. Conditions: at most 10^8 bytes; the sign is no backslash. dn: Print, parsed, Parse, Canon. Conditions: texts of at most 10^6 bytes. -/
import Derived.Test.YtjmpkbmgcbalkaaGreatDoorProg
import Derived.WalkKit
import Derived.KernelRfl
import Derived.LaidEql
import Derived.Stop.Asserts
import Derived.RowKitTokens
import Derived.Test.YtjmpkbmgcbalkaaGreatDoorT24
import Derived.Test.YtjmpkbmgcbalkaaGreatDoorT01
import Derived.Test.YtjmpkbmgcbalkaaGreatDoorT09
import Derived.Test.YtjmpkbmgcbalkaaGreatDoorT23
import Derived.Test.YtjmpkbmgcbalkaaGreatDoorT18
/- errors.Is at an error of the package Dn that wraps the package's sentinel, against a sentinel: true just if it is that one (Go's text is walked). No conditions beyond the shape of memory that each theorem names. -/
namespace Go.Proofs.YtjmpkbmgcbalkaaGreatDoor.IsDn
open Go.RowKit Go.Extern.Stop Go.Stop Go.Extern
theorem isTypeOf (v : Value) (w : World) : (Extern.ReflectliteType.typeOf #[.iface 189 v]).run Tryz.prog w = .ok (.iface 126 (.agg #[.pointer (some ⟨8, 189, none⟩)])) w := by kernel_rfl
def cmpEntry : Array Value → Sem Value := Extern.ReflectliteType.method fun t => do Rtype.noPackHeld "Comparable" t; pure (.bool (← typeInfo t).comparable)
theorem isComparable (w : World) : (cmpEntry #[.agg #[.pointer (some ⟨8, 189, none⟩)]]).run Tryz.prog w = .ok (.bool true) w := by kernel_rfl
theorem isMethodComparable (v : Value) (w : World) : (Go.method 319 126 v "Comparable").run Tryz.prog w = .ok (160, v) w := by kernel_rfl
theorem isComp : (Tryz.prog.info? 189).map (·.comparable) = some true := by kernel_rfl
theorem isSize : (Tryz.prog.info? 208).map (·.size) = some 1 := by kernel_rfl
theorem noIsE (v : Value) (xT : TypeId) (w : World) : (Instr.typeAssert (.iface 189 v) xT 128 true).run Tryz.prog w = .ok (.tuple #[.nilIface, .bool false]) w := run_typeAssert_lacksB Tryz.underlying128 (by kernel_rfl) (by kernel_rfl) v xT w
theorem noUnwrapE (v : Value) (xT : TypeId) (w : World) : (Instr.typeAssert (.iface 189 v) xT 131 true).run Tryz.prog w = .ok (.tuple #[.nilIface, .bool false]) w := run_typeAssert_lacksB Tryz.underlying131 (by kernel_rfl) (by kernel_rfl) v xT w
theorem noUnwrapsE (v : Value) (xT : TypeId) (w : World) : (Instr.typeAssert (.iface 189 v) xT 133 true).run Tryz.prog w = .ok (.tuple #[.nilIface, .bool false]) w := run_typeAssert_lacksB Tryz.underlying133 (by kernel_rfl) (by kernel_rfl) v xT w
theorem noIsW (v : Value) (xT : TypeId) (w : World) : (Instr.typeAssert (.iface 46 v) xT 128 true).run Tryz.prog w = .ok (.tuple #[.nilIface, .bool false]) w := run_typeAssert_lacksB Tryz.underlying128 (by kernel_rfl) (by kernel_rfl) v xT w
theorem hasUnwrapW (v : Value) (xT : TypeId) (w : World) : (Instr.typeAssert (.iface 46 v) xT 131 true).run Tryz.prog w = .ok (.tuple #[.iface 46 v, .bool true]) w := run_typeAssert_hasB Tryz.underlying131 (by kernel_rfl) v xT w
theorem methodUnwrap (v : Value) (w : World) : (Go.method 319 46 v "Unwrap").run Tryz.prog w = .ok (153, v) w := by kernel_rfl
theorem unwrap (x : Value) (b : Addr) (w : World) (hg : w.cell? ⟨0, 0, none⟩ = some (.iface 189 (.pointer (some b)))) : Calls Tryz.prog 153 #[.agg #[x]] w fun e w' => e = .returned (.iface 189 (.pointer (some b))) ∧ w.alloc (.cells #[x] 46) = w' := by
  have hlt := World.block_lt_of_cell? w _ hg
  go_enter Tryz.func153, Tryz.ntmps153
  go_wp2
  go_ret
  exact ⟨rfl, rfl⟩
set_option maxRecDepth 100000 in
set_option maxHeartbeats 4000000 in
theorem is_same (x : Value) (b : Addr) (w : World) (hg : w.cell? ⟨0, 0, none⟩ = some (.iface 189 (.pointer (some b)))) :
    Calls Tryz.prog 54 #[.iface 46 (.agg #[x]), .iface 189 (.pointer (some b))] w fun e w' => e = .returned (.bool true) ∧ w.alloc (.cells #[x] 46) = w' := by
  obtain ⟨i, hi, hcmp⟩ := Option.map_eq_some_iff.1 isComp
  obtain ⟨j, hj, hjs⟩ := Option.map_eq_some_iff.1 isSize
  have h8 := @run_callFunc_extern Tryz.prog 74 _ Extern.ReflectliteType.typeOf Tryz.func74 (by kernel_rfl) (by kernel_rfl) (by kernel_rfl) (by kernel_rfl)
  have h32 := @run_callFunc_extern Tryz.prog 160 _ cmpEntry Tryz.func160 (by kernel_rfl) (by kernel_rfl) (by kernel_rfl) (by kernel_rfl)
  have tT := isTypeOf
  have cT := isComparable
  have mR := isMethodComparable
  have nE := noIsE
  have uE := noUnwrapE
  have vE := noUnwrapsE
  have nW := noIsW
  have uW := hasUnwrapW
  have mU := methodUnwrap
  have heq := run_eql_iface_ptr_same (P := Tryz.prog) (w.alloc (.cells #[x] 46)) b Tryz.underlying49 Tryz.underlying189 hi hcmp hj
  have hty := run_eql_iface_types (P := Tryz.prog) 46 189 (.agg #[x]) (.pointer (some b)) Tryz.underlying49 (by decide) w
  clear hi hcmp hj hjs
  have hlt := World.block_lt_of_cell? w _ hg
  go_enter Tryz.func54, Tryz.ntmps54
  go_wp2
  refine wp_loop_rounds 2 ?_
  rw [rounds_succ]
  go_wp2
  rw [rounds_succ]
  go_wp2
  go_ret
  exact ⟨rfl, rfl⟩
set_option maxRecDepth 100000 in
theorem is_nil (b : Addr) (w : World) :
    Calls Tryz.prog 54 #[.nilIface, .iface 189 (.pointer (some b))] w fun e w' => e = .returned (.bool false) ∧ w = w' := by
  have hnl := fun w => run_eql_iface_nil_left (P := Tryz.prog) (w := w) 189 (.pointer (some b)) Tryz.underlying49
  go_enter Tryz.func54, Tryz.ntmps54
  go_wp2
  go_ret
  exact ⟨rfl, rfl⟩
end Go.Proofs.YtjmpkbmgcbalkaaGreatDoor.IsDn
/- dn.told: the number of an error of the package dn. Conditions: the package's variable holds its sentinel. -/
namespace Go.Proofs.YtjmpkbmgcbalkaaGreatDoor.ToldDn
open Go.RowKit
theorem told_nil (w : World) (p : Nat → Addr) (h : Globs w p) : Calls Tryz.prog 29 #[.nilIface] w fun e w' => e = .returned (.int .i64 0) ∧ Below w.heap.size w w' := by
  have k0 := h.cell 0 (by decide)
  have hlt := World.block_lt_of_cell? w _ k0
  clear h
  go_enter Tryz.func29, Tryz.ntmps29
  go_wp2_with fail
  have h1 := Aside.mk (below_new w (.cells #[.string ⟨#[]⟩] 46))
  refine (IsDn.is_nil _ _).mono ?_
  rintro e w0 ⟨rfl, rfl⟩
  go_wp2
  go_ret
  exact ⟨rfl, h1.out⟩
set_option maxHeartbeats 1000000 in
theorem told_wrong (x : Value) (hx : x.oneCell' = true) (w : World) (p : Nat → Addr) (h : Globs w p) :
    Calls Tryz.prog 29 #[.iface 46 (.agg #[x])] w fun e w' => e = .returned (.int .i64 70) ∧ Below w.heap.size w w' := by
  have k0 := h.cell 0 (by decide)
  have hlt := World.block_lt_of_cell? w _ k0
  go_enter Tryz.func29, Tryz.ntmps29
  go_wp2_with fail
  have h1 : Below w.heap.size w (w.alloc (.cells #[.string ⟨#[]⟩] 46)) := below_new _ _
  have k1 := cell_below k0 h1
  refine (IsDn.is_same x _ _ k1).mono ?_
  rintro e w1 ⟨rfl, hb⟩
  have h2 : Below w.heap.size w w1 := below_then h1 (by rw [← hb]; exact below_new _ _)
  have hc : w1.heap[w.heap.size]? = some (.cells #[.string ⟨#[]⟩] 46 (0, 0)) := by rw [← hb]; exact blk_below (World.alloc_heap_new w _) (below_new _ _)
  have HC := Aside.mk hc
  have H2 := Aside.mk h2
  have H3 := Aside.mk (h.below h2).et
  have hlt1 : w.heap.size < w1.heap.size := (Array.getElem?_eq_some_iff.1 hc).1
  clear k0 k1 hb hlt h h1 h2 hc
  go_wp2_with fail
  refine (AsDn.as_hit w.heap.size (.string ⟨#[]⟩) x _ hx H3.out HC.out).mono ?_
  rintro e w0 ⟨rfl, hb, hc⟩
  have H0 := Aside.mk (H2.out.trans hb)
  clear hb hc
  go_wp2
  go_ret
  exact ⟨rfl, H0.out⟩
end Go.Proofs.YtjmpkbmgcbalkaaGreatDoor.ToldDn
/- dn: names as values without memory; the contracts of dn's functions in that way of telling. Conditions: as in these contracts. -/
namespace Go.Proofs.YtjmpkbmgcbalkaaGreatDoor.Dn
open Go.RowKit
set_option linter.unusedVariables false
def cAva (a : Ava) : List V := [.str a.1, .str a.2]
def cRdn (r : Rdn) : List V := [.sl (r.map cAva)]
def vName (d : Name) : V := .sl (d.map cRdn)
theorem repl_one {w : World} {L : Lv} {x : V} {cs : List Value} (h : RepL w L [x] cs) : ∃ u, cs = [u] ∧ Rep w L x u := by
  obtain ⟨u, us, rfl, _, h1, h2⟩ := h
  rw [show us = [] from h2]
  exact ⟨u, rfl, h1⟩
theorem rdn_view {w : World} {L : Lv} (r : Rdn) (cs : List Value) (h : RepL w L (cRdn r) cs) : VRdn w (fun _ => True) cs r := by
  obtain ⟨u, rfl, h1⟩ := repl_one h
  refine rep_view (k := 2) (enc := cAva) (by omega) (fun _ => rfl) (fun a cs h => ?_) h1
  obtain ⟨u1, us, rfl, _, e1, u2, us2, rfl, _, e2, e3⟩ := h
  rw [show us2 = [] from e3]
  exact ⟨[u1], [u2], rfl, by rw [show u1 = _ from e1]; rfl, by rw [show u2 = _ from e2]; rfl⟩
theorem name_view {w : World} {L : Lv} {d : Name} {v : Value} (h : Rep w L (vName d) v) : VName w (fun _ => True) [v] d := rep_view (k := 1) (enc := cRdn) (by omega) (fun _ => rfl) rdn_view h
theorem one_arg {P : Program} {w : World} {g : Gh} {t : T} {vs : List Value} (h : RepTs P w g [t] vs) : ∃ v, vs = [v] ∧ RepT P w g t v := by
  obtain ⟨v, us, rfl, h1, h2⟩ := h
  rw [show us = [] from h2]
  exact ⟨v, rfl, h1⟩
theorem two_args {P : Program} {w : World} {g : Gh} {t t' : T} {vs : List Value} (h : RepTs P w g [t, t'] vs) : ∃ v v', vs = [v, v'] ∧ RepT P w g t v ∧ RepT P w g t' v' := by
  obtain ⟨v, us, rfl, h1, h2⟩ := h
  obtain ⟨v', rfl, h3⟩ := one_arg h2
  exact ⟨v, v', rfl, h1, h3⟩
variable (p : Nat → Addr)
theorem right_fn (d : Name) : Fn Tryz.prog (envX p) 19 [.v (vName d)] (.v (.bool (rightB d))) :=
  Fn.of_plain (enter_of (by kernel_rfl)) rfl fun w L vs hE ha => by
    obtain ⟨v, rfl, h⟩ := one_arg ha
    exact right_calls v d w p hE (name_view h)
theorem same_fn (d d' : Name) (hd : NameOk d) : Fn Tryz.prog (envX p) 21 [.v (vName d), .v (vName d')] (.v (.bool (decide (d = d')))) :=
  Fn.of_plain (enter_of (by kernel_rfl)) rfl fun w L vs hE ha => by
    obtain ⟨v, v', rfl, h, h'⟩ := two_args ha
    exact same_calls v v' d d' w (name_view h) (name_view h') hd
theorem under_fn (d b : Name) (hd : NameOk d) (hb : b.length ≤ 1000000000) : Fn Tryz.prog (envX p) 23 [.v (vName d), .v (vName b)] (.v (.bool (underB d b))) :=
  Fn.of_plain (enter_of (by kernel_rfl)) rfl fun w L vs hE ha => by
    obtain ⟨v, v', rfl, h, h'⟩ := two_args ha
    exact under_calls v v' d b w (name_view h) (name_view h') hd hb
theorem type_fn (s : ByteArray) : Fn Tryz.prog (envX p) 25 [.v (.str s)] (.v (.bool (typeB s.data.toList))) :=
  Fn.of_plain (enter_of (by kernel_rfl)) rfl fun w L vs hE ha => by
    obtain ⟨v, rfl, h⟩ := one_arg ha
    rw [show v = .string s from h]
    exact type_calls s w p hE
theorem escName_fn (s : ByteArray) (hs : s.size ≤ 1000000) : Fn Tryz.prog (envX p) 27 [.v (.str s)] (.v (.str ⟨(Esc.outF (Esc.nameR s.size) 0 s.data.toList).toArray⟩)) :=
  Fn.of_plain (enter_of (by kernel_rfl)) rfl fun w L vs hE ha => by
    obtain ⟨v, rfl, h⟩ := one_arg ha
    rw [show v = .string s from h]
    exact Esc.name_calls s hs w
theorem join_fn (xs : List ByteArray) (c : UInt8) (hn : xs.length ≤ 1000000) (hl : (joinC c (xs.map (·.data.toList))).length ≤ 1000000000) : Fn Tryz.prog (envX p) 56 [.v (.sl (xs.map fun x => [V.str x])), .v (.str ⟨#[c]⟩)] (.v (.str (mkB (joinC c (xs.map (·.data.toList)))))) :=
  Fn.of_plain (enter_of (by kernel_rfl)) rfl fun w L vs hE ha => by
    obtain ⟨v, v', rfl, h, h'⟩ := two_args ha
    rw [show v' = .string ⟨#[c]⟩ from h']
    refine join_calls v xs c w _ (rep_view (k := 1) (R := VStr) (enc := fun x => [V.str x]) (by omega) (fun _ => rfl) (fun x cs h => ?_) h) hn hl
    obtain ⟨u, rfl, h1⟩ := repl_one h
    rw [show u = .string x from h1]
    rfl
/-- an error of dn's -/
def dnErr (s : ByteArray) : V := .ifc 46 (.agg [.str s])
theorem told_nil_fn : Fn Tryz.prog (envX p) 29 [.v .nili] (.v (.int .i64 0)) :=
  Fn.of_plain (enter_of (by kernel_rfl)) rfl fun w L vs hE ha => by
    obtain ⟨v, rfl, h⟩ := one_arg ha
    rw [show v = .nilIface from h]
    exact ToldDn.told_nil w p hE.gl
theorem told_wrong_fn (s : ByteArray) : Fn Tryz.prog (envX p) 29 [.v (dnErr s)] (.v (.int .i64 70)) :=
  Fn.of_plain (enter_of (by kernel_rfl)) rfl fun w L vs hE ha => by
    obtain ⟨v, rfl, h⟩ := one_arg ha
    obtain ⟨u, rfl, cs, rfl, h1⟩ := h
    obtain ⟨u, h2, h3⟩ := repl_one h1
    have : cs = #[.string s] := by
      rw [show u = _ from h3] at h2
      exact Array.toList_inj.1 h2
    rw [this]
    exact ToldDn.told_wrong (.string s) rfl w p hE.gl
/-- what a part may be -/
def partV (s : ByteArray) : T := match partA s with
  | some a => .tup [.v (.agg (cAva a)), .v .nili]
  | none => .tup [.v (.agg (cAva (⟨#[]⟩, ⟨#[]⟩))), .v (dnErr s)]
theorem part_fn (s : ByteArray) (hs : s.size ≤ 1000000) : Fn Tryz.prog (envX p) 60 [.v (.str s)] (partV s) := by
  refine ⟨enter_of (by kernel_rfl), fun w L vs hE hL ha => ?_⟩
  obtain ⟨v, rfl, h⟩ := one_arg ha
  rw [show v = .string s from h]
  refine (part_calls s hs w p hE).mono ?_
  rintro e w' ⟨h1, hb⟩
  have fin : ∀ {t : T} {v : Value}, e = .returned v → RepT Tryz.prog w' ⟨L, fun _ => (0, 0), fun _ => undef⟩ t v → ∃ v L', e = .returned v ∧ Below w.heap.size w w' ∧ Same L w L' w' ∧ (∀ {b o}, L' b o → L b o ∨ w.heap.size ≤ b) ∧ (∀ {b o}, L' b o → ∃ u, w'.cell? ⟨b, o, none⟩ = some u) ∧ RepT Tryz.prog w' ⟨L', fun _ => (0, 0), fun _ => undef⟩ t v := fun {t v} he hr =>
    ⟨v, L, he, hb, Same.of_below hb, .inl, fun hl => let ⟨u, hu⟩ := hL hl; ⟨u, cell_below hu hb⟩, hr⟩
  rcases h1 with ⟨a, h2, he⟩ | ⟨h2, he⟩
  · rw [partV, h2]
    exact fin he ⟨_, rfl, _, _, rfl, ⟨_, rfl, _, _, rfl, rfl, rfl, _, _, rfl, rfl, rfl, rfl⟩, _, _, rfl, rfl, rfl⟩
  · rw [partV, h2]
    exact fin he ⟨_, rfl, _, _, rfl, ⟨_, rfl, _, _, rfl, rfl, rfl, _, _, rfl, rfl, rfl, rfl⟩, _, _, rfl, ⟨_, rfl, _, rfl, _, _, rfl, rfl, rfl, rfl⟩, rfl⟩
end Go.Proofs.YtjmpkbmgcbalkaaGreatDoor.Dn
/- latinerref07, walked: a text's pieces, and the part of a piece. Conditions: texts of at most 10^6 bytes. -/
namespace Go.Proofs.YtjmpkbmgcbalkaaGreatDoor.Rf
open Go.RowKit
set_option linter.unusedVariables false
variable {X : En}
theorem piecesF_fuel (c : UInt8) : ∀ (f g : Nat) (l : List UInt8), l.length < f → l.length < g → Dn.piecesF c f l = Dn.piecesF c g l
  | 0, _, _, h, _ => by omega
  | _, 0, _, _, h => by omega
  | f + 1, g + 1, l, h1, h2 => by
    rw [Dn.piecesF, Dn.piecesF]
    have := Dn.endL_le c l
    split
    · rfl
    · rw [piecesF_fuel c f g _ (by rw [List.length_drop]; omega) (by rw [List.length_drop]; omega)]
theorem pieces_step (c : UInt8) (l : List UInt8) : Dn.piecesL c l = if Dn.endL c l = l.length then [l] else l.take (Dn.endL c l) :: Dn.piecesL c (l.drop (Dn.endL c l + 1)) := by
  have := Dn.endL_le c l
  unfold Dn.piecesL
  rw [Dn.piecesF]
  split
  · rfl
  · rw [piecesF_fuel c l.length ((l.drop (Dn.endL c l + 1)).length + 1) _ (by rw [List.length_drop]; omega) (by omega)]
theorem drop_nil (s : ByteArray) (i : Nat) (h : s.size ≤ i) : s.data.toList.drop i = [] := List.drop_eq_nil_of_le (by simpa using h)
def pcs (l : List (List UInt8)) : List (List V) := l.map fun y => [V.str (tx y)]
set_option maxHeartbeats 4000000 in
theorem pieces_fn (s : ByteArray) (c : UInt8) (hs : s.size ≤ 1000000) (hc : c ≠ 92) : Fn Tryz.prog X 33 [.v (.str s), .v (.int .u8 c.toNat)] (.v (.sl (pcs (Dn.piecesL c s.data.toList)))) := by
  have hlen : ∀ i, (s.data.toList.drop i).length = s.size - i := fun i => by simp
  refine fn_prog tabOk mixed Tryz.f33 Tryz.func33 (by kernel_rfl) (by kernel_rfl) ?_
  conv => whnf
  refine ⟨Nat × Nat × List (List UInt8), fun x => ⟨40, [(0, .v (.str s)), (1, .v (.int .u8 c.toNat)), (5, .own 5 9 (pcs x.2.2)), (6, .v (.int .i64 (x.1 : Nat))), (7, .v (.int .i64 (x.2.1 : Nat)))], [], [(5, some 9)]⟩, fun x => x.1 ≤ x.2.1 ∧ x.1 ≤ s.size ∧ x.2.1 ≤ s.size + 1 ∧ x.2.2.length ≤ x.2.1 ∧ Dn.endL c (s.data.toList.drop x.1) = min x.2.1 s.size - x.1 + Dn.endL c (s.data.toList.drop x.2.1) ∧ Dn.piecesL c s.data.toList = x.2.2 ++ Dn.piecesL c (s.data.toList.drop x.1), fun x => s.size + 1 - x.2.1, ⟨(0, 0, []), [(5, none)], ⟨by dsimp only; omega, by dsimp only; omega, by dsimp only; omega, by simp, by simp, rfl⟩, ⟨rfl, rfl, ⟨.inl rfl, .inl rfl, ⟨rfl, rfl, rfl⟩, .inl rfl, .inl rfl, trivial⟩, trivial, ⟨trivial, trivial⟩⟩⟩, fun x hx => ?_⟩
  obtain ⟨a, i, o⟩ := x
  obtain ⟨h1, h2, h3, h4, h5, h6⟩ := hx
  dsimp only at h1 h2 h3 h4 h5 h6
  conv => whnf
  refine ⟨rfl, cmp_split (fun h => ?_) (fun h => ?_)⟩
  · dsimp only at h
    have hil : i < s.size := by omega
    obtain ⟨b, hb⟩ : ∃ b, b = s[i] := ⟨_, rfl⟩
    have hdr : s.data.toList.drop i = b :: s.data.toList.drop (i + 1) := by rw [Txt.drop_cons s i hil, hb]
    have iB : ((b.toNat : Nat) : Int) = 92 ↔ b = 92 := by rw [← UInt8.toNat_inj]; show _ ↔ b.toNat = 92; omega
    have iC : ((b.toNat : Nat) : Int) = ((c.toNat : Nat) : Int) ↔ b = c := by rw [← UInt8.toNat_inj]; omega
    conv => whnf
    refine st_byteE hil hb ?_
    conv => whnf
    refine ⟨rfl, cmp_split (fun hq => ?_) (fun hq => ?_)⟩
    · rw [iB] at hq
      conv => whnf
      refine st_add i 1 (by omega) ?_
      conv => whnf
      refine st_add (i + 1) 1 (by omega) ?_
      conv => whnf
      refine ⟨(a, i + 2, o), [(5, some 5)], ⟨by dsimp only; omega, h2, by dsimp only; omega, by dsimp only; omega, ?_, h6⟩, by dsimp only; omega, ?_⟩
      · dsimp only
        rw [h5, hdr, hq]
        by_cases hi2 : i + 1 < s.size
        · rw [Txt.drop_cons s (i + 1) hi2, Dn.endL_esc]
          show _ = _ + Dn.endL c (s.data.toList.drop (i + 1 + 1))
          omega
        · rw [drop_nil s (i + 1) (by omega), drop_nil s (i + 2) (by omega), Dn.endL_esc_end]
          show _ = _ + 0
          omega
      · exact ⟨rfl, rfl, ⟨.inl rfl, .inl rfl, ⟨rfl, rfl, rfl⟩, .inl rfl, .inl rfl, trivial⟩, trivial, ⟨rfl, trivial⟩⟩
    · rw [iB] at hq
      conv => whnf
      refine st_byteE hil hb ?_
      conv => whnf
      refine ⟨rfl, cmp_split (fun hr => ?_) (fun hr => ?_)⟩
      · rw [iC] at hr
        have he0 : Dn.endL c (s.data.toList.drop i) = 0 := by rw [hdr, hr]; exact Dn.endL_hit c hc _
        have hea : Dn.endL c (s.data.toList.drop a) = i - a := by rw [h5, he0]; omega
        have hst := pieces_step c (s.data.toList.drop a)
        rw [hea, hlen, if_neg (by omega), List.drop_drop, show a + (i - a + 1) = i + 1 by omega] at hst
        conv => whnf
        refine st_cut a i rfl rfl h1 (by omega) ?_
        rw [tx_cut, List.drop_take]
        conv => whnf
        refine st_app (by simp [pcs]; omega) (by simp [V.cells]) (zs := pcs (o ++ [(s.data.toList.drop a).take (i - a)])) (by simp [pcs, V.cells]) ?_
        conv => whnf
        refine st_add i 1 (by omega) ?_
        conv => whnf
        refine st_add i 1 (by omega) ?_
        conv => whnf
        refine ⟨(i + 1, i + 1, o ++ [(s.data.toList.drop a).take (i - a)]), [(5, some 31)], ⟨by dsimp only; omega, by dsimp only; omega, by dsimp only; omega, by simp; omega, by dsimp only; omega, ?_⟩, by dsimp only; omega, ?_⟩
        · dsimp only
          rw [h6, hst, List.append_assoc]; rfl
        · exact ⟨rfl, rfl, ⟨.inl rfl, .inl rfl, ⟨rfl, rfl, rfl⟩, .inl rfl, .inl rfl, trivial⟩, trivial, ⟨rfl, trivial⟩⟩
      · rw [iC] at hr
        conv => whnf
        refine st_add i 1 (by omega) ?_
        conv => whnf
        refine ⟨(a, i + 1, o), [(5, some 5)], ⟨by dsimp only; omega, h2, by dsimp only; omega, by dsimp only; omega, ?_, h6⟩, by dsimp only; omega, ?_⟩
        · dsimp only
          rw [h5, hdr, Dn.endL_other c b hq hr]
          omega
        · exact ⟨rfl, rfl, ⟨.inl rfl, .inl rfl, ⟨rfl, rfl, rfl⟩, .inl rfl, .inl rfl, trivial⟩, trivial, ⟨rfl, trivial⟩⟩
  · dsimp only at h
    have he0 : Dn.endL c (s.data.toList.drop i) = 0 := by rw [List.drop_eq_nil_of_le (by simp; omega)]; rfl
    have hst := pieces_step c (s.data.toList.drop a)
    rw [h5, he0, hlen, if_pos (by omega)] at hst
    conv => whnf
    refine st_cut a s.size rfl rfl h2 (by omega) ?_
    rw [tx_cut, List.take_of_length_le (by simp)]
    conv => whnf
    refine st_app (by simp [pcs]; omega) (by simp [V.cells]) (zs := pcs (o ++ [s.data.toList.drop a])) (by simp [pcs, V.cells]) ?_
    conv => whnf
    exact ⟨by rw [h6, hst]; rfl, rfl⟩
theorem index_none (c : UInt8) : ∀ s : List UInt8, c ∉ s → Lib.index s [c] = -1
  | [], _ => by simp [Lib.index]
  | x :: t, h => by
    rw [Txt.index_cons, if_neg (fun e => h (by simp [e])), index_none c t (fun hm => h (by simp [hm])), if_pos rfl]
theorem part_none (s : ByteArray) (h : (61 : UInt8) ∉ s.data.toList) : Dn.partA s = none := by
  unfold Dn.partA Lib.cut
  rw [index_none 61 _ h]
  simp
theorem part_at (s : ByteArray) (k : Nat) (hk : k < s.size) (he : s[k] = 61) (h : (61 : UInt8) ∉ s.data.toList.take k) : Dn.partA s = (Esc.readL true (tx (s.data.toList.drop (k + 1)))).map fun v => (tx (s.data.toList.take k), tx v) := by
  have e : s.data.toList = s.data.toList.take k ++ 61 :: s.data.toList.drop (k + 1) := by
    have := (List.take_append_drop k s.data.toList).symm
    rwa [Txt.drop_cons s k hk, he] at this
  have hc := Dn.cut_here 61 (s.data.toList.take k) (s.data.toList.drop (k + 1)) h
  rw [← e] at hc
  unfold Dn.partA
  rw [hc]
  rfl
theorem tx_tail (s : ByteArray) (a : Nat) : s.extract a s.size = tx (s.data.toList.drop a) := by rw [tx_cut, List.take_of_length_le (by simp)]
theorem byte_mem (s : ByteArray) (j : Nat) (h : j < s.size) : s[j] ∈ s.data.toList := by
  have h' : j < s.data.toList.length := by simpa using h
  exact List.getElem_mem h'
theorem byte_take (s : ByteArray) (j k : Nat) (h : j < k) (hk : k < s.size) : s[j] ∈ s.data.toList.take k := by
  have h' : j < (s.data.toList.take k).length := by simp; omega
  have := List.getElem_mem h'
  rwa [List.getElem_take] at this
theorem ava_none (s : ByteArray) (hs : s.size ≤ 1000000) (h61 : (61 : UInt8) ∉ s.data.toList) : Fn Tryz.prog X 34 [.v (.str s)] (.tup [.v (.agg (Dn.cAva (tx [], tx []))), .v (.bool false)]) := by
  refine fn_prog tabOk mixed Tryz.f34 Tryz.func34 (by kernel_rfl) (by kernel_rfl) ?_
  conv => whnf
  refine ⟨Nat, fun j => ⟨33, [(0, .v (.str s)), (2, .ptr 2 0), (4, .v (.int .i64 (j : Nat)))], [(2, [.v (.str (tx [])), .v (.str (tx []))])], []⟩, fun j => j ≤ s.size, fun j => s.size - j, ⟨0, [], by omega, ?_⟩, fun j hj => ?_⟩
  · exact ⟨rfl, rfl, ⟨.inl rfl, ⟨rfl, rfl⟩, .inl rfl, trivial⟩, ⟨⟨.inl rfl, .inl rfl, trivial⟩, trivial⟩, trivial⟩
  conv => whnf
  refine ⟨rfl, cmp_split (fun h => ?_) (fun h => ?_)⟩
  · have hjl : j < s.size := by omega
    obtain ⟨b, hb⟩ : ∃ b, b = s[j] := ⟨_, rfl⟩
    have hne : b.toNat ≠ 61 := fun e => h61 (by have := byte_mem s j hjl; rw [← hb, show b = 61 from UInt8.toNat_inj.1 e] at this; exact this)
    conv => whnf
    refine st_byteE hjl hb ?_
    conv => whnf
    refine ⟨rfl, cmp_false (by omega) ?_⟩
    conv => whnf
    refine st_add j 1 (by omega) ?_
    conv => whnf
    refine ⟨j + 1, [], by omega, by dsimp only; omega, ?_⟩
    exact ⟨rfl, rfl, ⟨.inl rfl, ⟨rfl, rfl⟩, .inl rfl, trivial⟩, ⟨⟨.inl rfl, .inl rfl, trivial⟩, trivial⟩, trivial⟩
  · conv => whnf
    exact ⟨⟨.inl rfl, .inl rfl, trivial⟩, rfl⟩
theorem ava_at (s : ByteArray) (k : Nat) (hs : s.size ≤ 1000000) (hk : k < s.size) (he : s[k] = 61) (h61 : (61 : UInt8) ∉ s.data.toList.take k) : Fn Tryz.prog X 34 [.v (.str s)] (.tup [.v (.agg (Dn.cAva (tx (s.data.toList.take k), tx (Esc.readT true (tx (s.data.toList.drop (k + 1))))))), .v (.bool (Esc.readL true (tx (s.data.toList.drop (k + 1)))).isSome)]) := by
  refine fn_prog tabOk mixed Tryz.f34 Tryz.func34 (by kernel_rfl) (by kernel_rfl) ?_
  conv => whnf
  refine ⟨Nat, fun j => ⟨33, [(0, .v (.str s)), (2, .ptr 2 0), (4, .v (.int .i64 (j : Nat)))], [(2, [.v (.str (tx [])), .v (.str (tx []))])], []⟩, fun j => j ≤ k, fun j => s.size - j, ⟨0, [], by omega, ?_⟩, fun j hj => ?_⟩
  · exact ⟨rfl, rfl, ⟨.inl rfl, ⟨rfl, rfl⟩, .inl rfl, trivial⟩, ⟨⟨.inl rfl, .inl rfl, trivial⟩, trivial⟩, trivial⟩
  conv => whnf
  refine ⟨rfl, cmp_true (by omega) ?_⟩
  have hjl : j < s.size := by omega
  obtain ⟨b, hb⟩ : ∃ b, b = s[j] := ⟨_, rfl⟩
  conv => whnf
  refine st_byteE hjl hb ?_
  conv => whnf
  by_cases hjk : j = k
  · subst hjk
    have hb61 : b.toNat = 61 := by rw [hb, he]; rfl
    refine ⟨rfl, cmp_true (by omega) ?_⟩
    conv => whnf
    refine st_add j 1 (by omega) ?_
    conv => whnf
    refine st_cut (j + 1) s.size rfl rfl (by omega) (by omega) ?_
    rw [tx_tail]
    conv => whnf
    (refine st_call (readName_fn (tx (s.data.toList.drop (j + 1))) (by rw [tx_size]; simp; omega)) ?_ rfl rfl ?_; (focus ((repeat' (first | exact trivial | exact rfl | exact Or.inl rfl | exact Or.inr ⟨rfl, rfl⟩ | refine And.intro ?_ ?_)); done)); conv => whnf)
    refine st_cut 0 j rfl rfl (by omega) (by omega) ?_
    rw [tx_cut, List.drop_zero]
    conv => whnf
    cases hr : Esc.readL true (tx (s.data.toList.drop (j + 1))) with
    | none =>
      have e1 : Esc.readC true (tx (s.data.toList.drop (j + 1))) = 60 := by unfold Esc.readC; rw [hr]; rfl
      refine ⟨rfl, cmp_false (by rw [e1]; decide) ?_⟩
      conv => whnf
      exact ⟨⟨.inl rfl, .inl rfl, trivial⟩, rfl⟩
    | some v =>
      have e1 : Esc.readC true (tx (s.data.toList.drop (j + 1))) = 0 := by unfold Esc.readC; rw [hr]; rfl
      refine ⟨rfl, cmp_true e1 ?_⟩
      conv => whnf
      exact ⟨⟨.inl rfl, .inl rfl, trivial⟩, rfl⟩
  · have hne : b.toNat ≠ 61 := fun e => h61 (by have := byte_take s j k (by omega) hk; rw [← hb, show b = 61 from UInt8.toNat_inj.1 e] at this; exact this)
    refine ⟨rfl, cmp_false (by omega) ?_⟩
    conv => whnf
    refine st_add j 1 (by omega) ?_
    conv => whnf
    refine ⟨j + 1, [], by omega, by dsimp only; omega, ?_⟩
    exact ⟨rfl, rfl, ⟨.inl rfl, ⟨rfl, rfl⟩, .inl rfl, trivial⟩, ⟨⟨.inl rfl, .inl rfl, trivial⟩, trivial⟩, trivial⟩
theorem first_at (c : UInt8) : ∀ l : List UInt8, c ∉ l ∨ ∃ k, ∃ h : k < l.length, l[k] = c ∧ c ∉ l.take k
  | [] => .inl (by simp)
  | x :: t => by
    by_cases hx : x = c
    · exact .inr ⟨0, by simp, by simpa using hx, by simp⟩
    · rcases first_at c t with h | ⟨k, h1, h2, h3⟩
      · exact .inl (by simp [h, Ne.symm hx])
      · exact .inr ⟨k + 1, by simpa using h1, by simpa using h2, by simp [h3, Ne.symm hx]⟩
/-- what the document says of a piece is what the program says -/
theorem ava_fn (s : ByteArray) (hs : s.size ≤ 1000000) : ∃ a : Dn.Ava, Fn Tryz.prog X 34 [.v (.str s)] (.tup [.v (.agg (Dn.cAva a)), .v (.bool (Dn.partA s).isSome)]) ∧ ∀ b, Dn.partA s = some b → a = b := by
  rcases first_at 61 s.data.toList with h | ⟨k, h1, h2, h3⟩
  · refine ⟨(tx [], tx []), ?_, fun b hb => ?_⟩
    · rw [part_none s h]; exact ava_none s hs h
    · rw [part_none s h] at hb; cases hb
  · have hk : k < s.size := by simpa using h1
    have hp := part_at s k hk h2 h3
    refine ⟨(tx (s.data.toList.take k), tx (Esc.readT true (tx (s.data.toList.drop (k + 1))))), ?_, fun b hb => ?_⟩
    · rw [hp, Option.isSome_map]; exact ava_at s k hs hk h2 h3
    · rw [hp] at hb
      obtain ⟨v, hv, rfl⟩ := Option.map_eq_some_iff.1 hb
      unfold Esc.readT
      rw [hv]; rfl
end Go.Proofs.YtjmpkbmgcbalkaaGreatDoor.Rf
/- dn's laws: a name cut to its first ten parts, each to its first five pairs, each to 21 and 61 bytes. No conditions. -/
namespace Go.Proofs.YtjmpkbmgcbalkaaGreatDoor.Dn
open Go.RowKit
def cutB (s : ByteArray) (n : Nat) : ByteArray := s.extract 0 (min s.size n)
def cutAva (a : Ava) : Ava := (cutB a.1 21, cutB a.2 61)
def cutRdn (r : Rdn) : Rdn := (r.take 5).map cutAva
def cutName (d : Name) : Name := (d.take 10).map cutRdn
theorem cut_fn (X : En) (d : Name) : Fn Tryz.prog X 11 [.v (vName d)] (.v (vName (cutName d))) := by
  refine fn_prog tabOk mixed Tryz.f11 Tryz.func11 (by kernel_rfl) (by kernel_rfl) ?_
  conv => whnf
  refine ⟨Nat, fun k => ⟨66, [(0, .v (vName d)), (3, .own 3 42 ((d.take k).map fun r => cRdn (cutRdn r))), (4, .v (.int .i64 (k : Nat)))], [], [(3, some 42)]⟩, fun k => k ≤ d.length ∧ k ≤ 10, fun k => d.length - k, ⟨0, [(3, none)], ⟨by omega, by omega⟩, ⟨rfl, rfl, ⟨.inl rfl, ⟨rfl, rfl, rfl⟩, .inl rfl, trivial⟩, trivial, ⟨trivial, trivial⟩⟩⟩, fun k ⟨hk, hk10⟩ => ?_⟩
  conv => whnf
  have fin : d.length ≤ k ∨ 10 ≤ k → V.sl (List.map cRdn (cutName d)) = V.sl ((d.take k).map fun r => cRdn (cutRdn r)) := fun h => by
    unfold cutName
    rw [List.map_map]
    have : d.take k = d.take 10 := by
      rcases h with h | h
      · rw [List.take_of_length_le h, List.take_of_length_le (by omega)]
      · rw [show k = 10 by omega]
    rw [this]; rfl
  refine ⟨rfl, cmp_split (fun h => ?_) (fun h => ?_)⟩
  · conv => whnf
    refine ⟨rfl, cmp_split (fun h2 => ?_) (fun h2 => ?_)⟩
    · rw [List.length_map] at h
      have hkl : k < d.length := by omega
      conv => whnf
      -- the inner loop
      refine ⟨Nat, fun j => ⟨66, [(0, .v (vName d)), (3, .own 3 42 ((d.take k).map fun r => cRdn (cutRdn r))), (4, .v (.int .i64 (k : Nat))), (5, .ptr 5 0), (6, .v (.int .i64 (j : Nat)))], [(5, [.own 5 39 ((d[k].take j).map fun a => cAva (cutAva a))])], [(3, some 42), (5, some 39)]⟩, fun j => j ≤ d[k].length ∧ j ≤ 5, fun j => d[k].length - j, ⟨0, [(3, some 3), (5, none)], ⟨by omega, by omega⟩, ?_⟩, fun j ⟨hj, hj5⟩ => ?_⟩
      · exact ⟨rfl, rfl, ⟨.inl rfl, ⟨rfl, rfl, rfl⟩, .inl rfl, ⟨rfl, rfl⟩, .inl rfl, trivial⟩, ⟨⟨⟨rfl, by simp, rfl⟩, trivial⟩, trivial⟩, ⟨rfl, trivial, trivial⟩⟩
      · conv => whnf
        have fin2 : d[k].length ≤ j ∨ 5 ≤ j → (d[k].take j).map (fun a => cAva (cutAva a)) = (cutRdn d[k]).map cAva := fun h => by
          unfold cutRdn
          rw [List.map_map]
          have : d[k].take j = d[k].take 5 := by
            rcases h with h | h
            · rw [List.take_of_length_le h, List.take_of_length_le (by omega)]
            · rw [show j = 5 by omega]
          rw [this]; rfl
        have hkd : k ≤ 1000000000000 := by omega
        have out : d[k].length ≤ j ∨ 5 ≤ j → (d.take k).map (fun r => cRdn (cutRdn r)) ++ [[V.sl ((d[k].take j).map fun a => cAva (cutAva a))]] = (d.take (k + 1)).map fun r => cRdn (cutRdn r) := fun h => by
          rw [fin2 h]
          exact map_take_succ (enc := fun r => cRdn (cutRdn r)) hkl
        refine st_idx hkl rfl ?_
        conv => whnf
        refine ⟨rfl, cmp_split (fun h3 => ?_) (fun h3 => ?_)⟩
        · rw [List.length_map] at h3
          conv => whnf
          refine ⟨rfl, cmp_split (fun h4 => ?_) (fun h4 => ?_)⟩
          · have hjl : j < d[k].length := by omega
            conv => whnf
            refine st_idx hkl rfl ?_
            conv => whnf
            refine st_idx hjl rfl ?_
            conv => whnf
            refine ⟨none, by kernel_rfl, ?_⟩
            conv => whnf
            refine st_min 21 ?_
            conv => whnf
            refine st_cut 0 (min d[k][j].1.size 21) rfl rfl (by omega) (by omega) ?_
            conv => whnf
            refine st_min 61 ?_
            conv => whnf
            refine st_cut 0 (min d[k][j].2.size 61) rfl rfl (by omega) (by omega) ?_
            conv => whnf
            refine st_app (by simp; omega) (by simp [V.cells]) (map_take_succ (enc := fun a => cAva (cutAva a)) hjl) ?_
            conv => whnf
            refine ⟨rfl, st_succ (by omega) ?_⟩
            conv => whnf
            refine ⟨j + 1, [(3, some 3), (5, some 59)], ⟨by omega, by omega⟩, by dsimp only; omega, ?_⟩
            exact ⟨rfl, rfl, ⟨.inl rfl, ⟨rfl, rfl, rfl⟩, .inl rfl, ⟨rfl, rfl⟩, .inl rfl, trivial⟩, ⟨⟨⟨rfl, rfl, rfl⟩, trivial⟩, trivial⟩, ⟨rfl, rfl, trivial⟩⟩
          · conv => whnf
            refine st_app (by simp; omega) (by simp [V.cells]) (out (by omega)) ?_
            conv => whnf
            refine ⟨rfl, st_succ hkd ?_⟩
            conv => whnf
            refine ⟨k + 1, [(3, some 64)], ⟨by omega, by omega⟩, by dsimp only; omega, ?_⟩
            exact ⟨rfl, rfl, ⟨.inl rfl, ⟨rfl, rfl, rfl⟩, .inl rfl, trivial⟩, trivial, ⟨rfl, trivial⟩⟩
        · rw [List.length_map] at h3
          conv => whnf
          refine st_app (by simp; omega) (by simp [V.cells]) (out (by omega)) ?_
          conv => whnf
          refine ⟨rfl, st_succ hkd ?_⟩
          conv => whnf
          refine ⟨k + 1, [(3, some 64)], ⟨by omega, by omega⟩, by dsimp only; omega, ?_⟩
          exact ⟨rfl, rfl, ⟨.inl rfl, ⟨rfl, rfl, rfl⟩, .inl rfl, trivial⟩, trivial, ⟨rfl, trivial⟩⟩
    · conv => whnf
      exact ⟨fin (by omega), rfl⟩
  · rw [List.length_map] at h
    conv => whnf
    exact ⟨fin (by omega), rfl⟩
end Go.Proofs.YtjmpkbmgcbalkaaGreatDoor.Dn
/- dn: a name's text. Conditions: at most 1000 parts of at most 100 pairs, types and values of at most 1000 bytes. -/
namespace Go.Proofs.YtjmpkbmgcbalkaaGreatDoor.Dn
open Go.RowKit
set_option linter.unusedVariables false
/-- names that are not too large -/
structure Small (d : Name) : Prop where
  len : d.length ≤ 1000
  row : ∀ r ∈ d, r.length ≤ 100 ∧ ∀ a ∈ r, a.1.size ≤ 1000 ∧ a.2.size ≤ 1000
theorem avaL_len {a : Ava} (h : a.1.size ≤ 1000 ∧ a.2.size ≤ 1000) : (avaL a).length ≤ 4001 := by
  have h1 := Esc.outF_len (Esc.nameR a.2.size) a.2.data.toList 0
  have h2 := Txt.size_list a.1
  have h3 := Txt.size_list a.2
  simp only [avaL, List.length_append, List.length_cons]
  omega
theorem rdnL_len {r : Rdn} (h : r.length ≤ 100 ∧ ∀ a ∈ r, a.1.size ≤ 1000 ∧ a.2.size ≤ 1000) : (rdnL r).length ≤ 400200 := by
  have h1 := joinC_len 43 4001 (r.map avaL) (fun x hx => by obtain ⟨a, ha, rfl⟩ := List.mem_map.1 hx; exact avaL_len (h.2 a ha))
  rw [List.length_map] at h1
  have h2 := h.1
  have : r.length * (4001 + 1) ≤ 100 * (4001 + 1) := Nat.mul_le_mul_right _ h2
  unfold rdnL
  omega
theorem nameL_len {d : Name} (h : Small d) : (nameL d).length ≤ 500000000 := by
  have h1 := joinC_len 44 400200 (d.map rdnL) (fun x hx => by obtain ⟨a, ha, rfl⟩ := List.mem_map.1 hx; exact rdnL_len (h.row a ha))
  rw [List.length_map] at h1
  have h2 := h.len
  have : d.length * (400200 + 1) ≤ 1000 * (400200 + 1) := Nat.mul_le_mul_right _ h2
  unfold nameL
  omega
theorem cat_len {s t : ByteArray} {l : List UInt8} (h : s ++ t = mkB l) (hl : l.length ≤ 4001) : s.size + t.size ≤ 9223372036854775807 := by
  have h2 : (s ++ t).size = l.length := by rw [h]; rfl
  rw [ByteArray.size_append] at h2
  omega
variable (p : Nat → Addr)
theorem joinX_fn {α : Type} (xs : List α) (f : α → List UInt8) (c : UInt8) (hn : xs.length ≤ 1000000) (hl : (joinC c (xs.map f)).length ≤ 1000000000) : Fn Tryz.prog (envX p) 56 [.v (.sl (xs.map fun x => [V.str (mkB (f x))])), .v (.str ⟨#[c]⟩)] (.v (.str (mkB (joinC c (xs.map f))))) := by
  have := join_fn p (xs.map fun x => mkB (f x)) c (by rw [List.length_map]; exact hn) (by rw [map_mkB]; exact hl)
  rw [map_mkB, List.map_map] at this
  exact this
theorem printed_fn (d : Name) (hd : Small d) : Fn Tryz.prog (envX p) 30 [.v (vName d)] (.v (.str (mkB (nameL d)))) := by
  have hl := hd.len
  refine fn_prog tabOk mixed Tryz.f30 Tryz.func30 (by kernel_rfl) (by kernel_rfl) ?_
  conv => whnf
  refine ⟨Nat, fun k => ⟨41, [(3, .own 3 9 ((d.take k).map fun r => [V.str (mkB (rdnL r))])), (9, .v (vName d)), (10, .v (.int .i64 (d.length : Nat))), (11, .v (.int .i64 (k : Nat)))], [], [(3, some 9)]⟩, fun k => k ≤ d.length, fun k => d.length - k, ⟨0, [(3, none)], by omega, ⟨rfl, rfl, ⟨⟨rfl, rfl, rfl⟩, .inl rfl, .inl (by rw [List.length_map]), .inl rfl, trivial⟩, trivial, ⟨trivial, trivial⟩⟩⟩, fun k hk => ?_⟩
  conv => whnf
  refine ⟨rfl, cmp_split (fun h => ?_) (fun h => ?_)⟩
  · have hkl : k < d.length := by omega
    have hrow := hd.row d[k] (List.getElem_mem hkl)
    have hrl := hrow.1
    conv => whnf
    refine st_idx hkl rfl ?_
    conv => whnf
    refine ⟨Nat, fun j => ⟨41, [(3, .own 3 9 ((d.take k).map fun r => [V.str (mkB (rdnL r))])), (6, .own 6 9 ((d[k].take j).map fun a => [V.str (mkB (avaL a))])), (9, .v (vName d)), (10, .v (.int .i64 (d.length : Nat))), (11, .v (.int .i64 (k : Nat))), (16, .v (.sl (d[k].map cAva))), (17, .v (.int .i64 (d[k].length : Nat))), (18, .v (.int .i64 (j : Nat)))], [], [(3, some 9), (6, some 9)]⟩, fun j => j ≤ d[k].length, fun j => d[k].length - j, ⟨0, [(3, some 3), (6, none)], by omega, ?_⟩, fun j hj => ?_⟩
    · exact ⟨rfl, rfl, ⟨⟨rfl, rfl, rfl⟩, ⟨rfl, rfl, rfl⟩, .inl rfl, .inl rfl, .inl rfl, .inl rfl, .inl (by rw [List.length_map]), .inl rfl, trivial⟩, trivial, ⟨rfl, trivial, trivial⟩⟩
    · conv => whnf
      refine ⟨rfl, cmp_split (fun h2 => ?_) (fun h2 => ?_)⟩
      · have hjl : j < d[k].length := by omega
        have hav := hrow.2 d[k][j] (List.getElem_mem hjl)
        conv => whnf
        refine st_idx hjl rfl ?_
        conv => whnf
        refine ⟨none, by kernel_rfl, ?_⟩
        conv => whnf
        refine st_cat (show _ + 1 ≤ _ by omega) rfl ?_
        conv => whnf
        refine st_call (escName_fn p d[k][j].2 (by omega)) ⟨.inl rfl, trivial⟩ rfl rfl ?_
        conv => whnf
        refine st_cat (cat_len (ava_text d[k][j]) (avaL_len hav)) (ava_text d[k][j]) ?_
        conv => whnf
        refine st_app (by simp; omega) (by simp [V.cells]) (map_take_succ (enc := fun a => [V.str (mkB (avaL a))]) hjl) ?_
        conv => whnf
        refine ⟨rfl, st_succ (by omega) ?_⟩
        conv => whnf
        refine ⟨j + 1, [(3, some 3), (6, some 31)], by omega, by dsimp only; omega, ?_⟩
        exact ⟨rfl, rfl, ⟨⟨rfl, rfl, rfl⟩, ⟨rfl, rfl, rfl⟩, .inl rfl, .inl rfl, .inl rfl, .inl rfl, .inl rfl, .inl rfl, trivial⟩, trivial, ⟨rfl, rfl, trivial⟩⟩
      · have hje : j = d[k].length := by omega
        subst hje
        conv => whnf
        have hr := rdnL_len hrow
        refine st_call (joinX_fn p d[k] avaL 43 (by omega) (Nat.le_trans hr (by omega))) ⟨(by rw [List.take_length]; rfl), .inl rfl, trivial⟩ rfl rfl ?_
        conv => whnf
        refine st_app (by simp; omega) (by simp [V.cells]) (map_take_succ (enc := fun r => [V.str (mkB (rdnL r))]) hkl) ?_
        conv => whnf
        refine ⟨rfl, st_succ (by omega) ?_⟩
        conv => whnf
        refine ⟨k + 1, [(3, some 37)], by omega, by dsimp only; omega, ?_⟩
        exact ⟨rfl, rfl, ⟨⟨rfl, rfl, rfl⟩, .inl rfl, .inl rfl, .inl rfl, trivial⟩, trivial, ⟨rfl, trivial⟩⟩
  · have hke : k = d.length := by omega
    subst hke
    conv => whnf
    have hr := nameL_len hd
    refine st_call (joinX_fn p d rdnL 44 (by omega) (Nat.le_trans hr (by omega))) ⟨(by rw [List.take_length]; rfl), .inl rfl, trivial⟩ rfl rfl ?_
    conv => whnf
    exact ⟨.inl rfl, rfl⟩
end Go.Proofs.YtjmpkbmgcbalkaaGreatDoor.Dn
/- latinerref07, walked: which names are right, the same, under each other. Conditions: at most 10^6 parts of at most 10^6 pairs, texts of at most 10^6 bytes. -/
namespace Go.Proofs.YtjmpkbmgcbalkaaGreatDoor.Rf
open Go.RowKit Dn
set_option linter.unusedVariables false
variable {X : En}
/-- names that are not too large -/
structure Mid (d : Name) : Prop where
  len : d.length ≤ 1000000
  row : ∀ r ∈ d, r.length ≤ 1000000 ∧ ∀ a ∈ r, a.1.size ≤ 1000000 ∧ a.2.size ≤ 1000000
theorem Mid.of_small {d : Name} (h : Small d) : Mid d :=
  ⟨by have := h.len; omega, fun r hr => ⟨by have := (h.row r hr).1; omega, fun a ha => by have := (h.row r hr).2 a ha; omega⟩⟩
theorem all_take_succ {α : Type} (f : α → Bool) (l : List α) (i : Nat) (h : i < l.length) : (l.take (i + 1)).all f = ((l.take i).all f && f l[i]) := by
  rw [List.take_succ_eq_append_getElem h, List.all_append]; simp
set_option maxHeartbeats 4000000 in
theorem right7_fn (d : Name) (hd : Mid d) : Fn Tryz.prog X 20 [.v (vName d)] (.v (.bool (rightB d))) := by
  have hdl := hd.len
  have bad : ∀ i (h : i < d.length), rdnB d[i] = false → rightB d = false := fun i h e => by
    unfold rightB
    rw [Bool.and_eq_false_iff]
    right
    cases hq : d.all rdnB
    · rfl
    · have := List.all_eq_true.1 hq d[i] (List.getElem_mem h)
      rw [e] at this; cases this
  refine fn_prog tabOk mixed Tryz.f20 Tryz.func20 (by kernel_rfl) (by kernel_rfl) ?_
  conv => whnf
  refine ⟨Nat, fun i => ⟨64, [(0, .v (vName d)), (3, .v (.int .i64 (i : Nat)))], [], []⟩, fun i => i ≤ d.length ∧ (d.take i).all rdnB = true, fun i => d.length - i, ⟨0, [], ⟨by omega, rfl⟩, ?_⟩, fun i ⟨hi, ha⟩ => ?_⟩
  · exact ⟨rfl, rfl, ⟨.inl rfl, .inl rfl, trivial⟩, trivial, trivial⟩
  conv => whnf
  refine ⟨rfl, cmp_split (fun h => ?_) (fun h => ?_)⟩
  · rw [List.length_map] at h
    have hil : i < d.length := by omega
    obtain ⟨hrl, hra⟩ := hd.row d[i] (List.getElem_mem hil)
    have hb := bad i hil
    conv => whnf
    refine st_idx hil rfl ?_
    conv => whnf
    refine ⟨rfl, cmp_split (fun h1 => ?_) (fun h1 => ?_)⟩
    · rw [List.length_map] at h1
      conv => whnf
      exact ⟨.inl (congrArg V.bool (hb (by unfold rdnB; rw [decide_eq_false (by omega)]; rfl)).symm), rfl⟩
    rw [List.length_map] at h1
    conv => whnf
    refine st_idx hil rfl ?_
    conv => whnf
    refine ⟨rfl, cmp_split (fun h2 => ?_) (fun h2 => ?_)⟩
    · rw [List.length_map] at h2
      conv => whnf
      exact ⟨.inl (congrArg V.bool (hb (by unfold rdnB; rw [decide_eq_false (p := d[i].length ≤ 3) (by omega)]; simp)).symm), rfl⟩
    rw [List.length_map] at h2
    conv => whnf
    refine ⟨Nat, fun k => ⟨64, [(0, .v (vName d)), (3, .v (.int .i64 (i : Nat))), (4, .v (.int .i64 (k : Nat)))], [], []⟩, fun k => k ≤ d[i].length ∧ (d[i].take k).all avaB = true, fun k => d[i].length - k, ⟨0, [], ⟨by omega, rfl⟩, ?_⟩, fun k ⟨hk, hka⟩ => ?_⟩
    · exact ⟨rfl, rfl, ⟨.inl rfl, .inl rfl, .inl rfl, trivial⟩, trivial, trivial⟩
    conv => whnf
    refine st_idx hil rfl ?_
    conv => whnf
    refine ⟨rfl, cmp_split (fun h3 => ?_) (fun h3 => ?_)⟩
    · rw [List.length_map] at h3
      have hkl : k < d[i].length := by omega
      have hsz := hra d[i][k] (List.getElem_mem hkl)
      have hb2 : avaB d[i][k] = false → rightB d = false := fun e => hb (by
        unfold rdnB
        rw [Bool.and_eq_false_iff, Bool.and_eq_false_iff]
        right; right
        cases hq : d[i].all avaB
        · rfl
        · have := List.all_eq_true.1 hq d[i][k] (List.getElem_mem hkl)
          rw [e] at this; cases this)
      conv => whnf
      refine st_idx hil rfl ?_
      conv => whnf
      refine st_idx hkl rfl ?_
      conv => whnf
      refine st_callB (isType_fn d[i][k].1 hsz.1) ⟨.inl rfl, trivial⟩ rfl (fun h4 => ?_) (fun h4 => ?_)
      · conv => whnf
        refine st_idx hil rfl ?_
        conv => whnf
        refine st_idx hkl rfl ?_
        conv => whnf
        refine ⟨rfl, cmp_split (fun h5 => ?_) (fun h5 => ?_)⟩
        · conv => whnf
          exact ⟨.inl (congrArg V.bool (hb2 (by unfold avaB; rw [decide_eq_false (by omega)]; simp)).symm), rfl⟩
        · conv => whnf
          refine st_add k 1 (by omega) ?_
          conv => whnf
          refine ⟨k + 1, [], ⟨hkl, by rw [all_take_succ _ _ _ hkl, hka]; unfold avaB; rw [h4, decide_eq_true (by omega)]; rfl⟩, by dsimp only; omega, ?_⟩
          exact ⟨rfl, rfl, ⟨.inl rfl, .inl rfl, .inl rfl, trivial⟩, trivial, trivial⟩
      · conv => whnf
        exact ⟨.inl (congrArg V.bool (hb2 (by unfold avaB; rw [h4]; rfl)).symm), rfl⟩
    · rw [List.length_map] at h3
      conv => whnf
      refine st_add i 1 (by omega) ?_
      conv => whnf
      refine ⟨i + 1, [], ⟨hil, ?_⟩, by dsimp only; omega, ?_⟩
      · rw [List.take_of_length_le (by omega)] at hka
        rw [all_take_succ _ _ _ hil, ha]
        unfold rdnB
        rw [hka, decide_eq_true (by omega), decide_eq_true (by omega)]; rfl
      · exact ⟨rfl, rfl, ⟨.inl rfl, .inl rfl, trivial⟩, trivial, trivial⟩
  · rw [List.length_map] at h
    rw [List.take_of_length_le (by omega)] at ha
    conv => whnf
    refine ⟨rfl, cmp_split (fun h1 => ?_) (fun h1 => ?_)⟩
    all_goals
      rw [List.length_map] at h1
      conv => whnf
      exact ⟨.inl (congrArg V.bool (by unfold rightB; rw [ha]; simp; omega)), rfl⟩
theorem cAva_inj {a b : Ava} : cAva a = cAva b ↔ a = b := by
  obtain ⟨a1, a2⟩ := a
  obtain ⟨b1, b2⟩ := b
  simp [cAva]
theorem one7_fn (a b : Rdn) (ha : a.length ≤ 1000000) : Fn Tryz.prog X 42 [.v (.agg (cRdn a)), .v (.agg (cRdn b))] (.v (.bool (decide (a = b)))) := by
  refine fn_prog tabOk mixed Tryz.f42 Tryz.func42 (by kernel_rfl) (by kernel_rfl) ?_
  conv => whnf
  refine ⟨rfl, cmp_split (fun h => ?_) (fun h => ?_)⟩
  · rw [List.length_map, List.length_map] at h
    conv => whnf
    exact ⟨.inl (congrArg V.bool (decide_eq_false (fun e => h (by rw [e]))).symm), rfl⟩
  rw [List.length_map, List.length_map] at h
  have hab : a.length = b.length := by omega
  conv => whnf
  refine ⟨Nat, fun k => ⟨31, [(2, .ptr 2 0), (3, .ptr 3 0), (5, .v (.int .i64 (k : Nat)))], [(2, [.v (.sl (a.map cAva))]), (3, [.v (.sl (b.map cAva))])], []⟩, fun k => k ≤ a.length ∧ a.take k = b.take k, fun k => a.length - k, ⟨0, [], ⟨by omega, rfl⟩, ?_⟩, fun k ⟨hk, he⟩ => ?_⟩
  · exact ⟨rfl, rfl, ⟨⟨rfl, rfl⟩, ⟨rfl, rfl⟩, .inl rfl, trivial⟩, ⟨⟨.inl rfl, trivial⟩, ⟨.inl rfl, trivial⟩, trivial⟩, trivial⟩
  conv => whnf
  refine ⟨rfl, cmp_split (fun h1 => ?_) (fun h1 => ?_)⟩
  · rw [List.length_map] at h1
    have hkl : k < a.length := by omega
    have hkb : k < b.length := by omega
    conv => whnf
    refine ⟨none, by kernel_rfl, ?_⟩; conv => whnf
    refine st_idx hkl rfl ?_
    conv => whnf
    refine st_idx hkb rfl ?_
    conv => whnf
    refine cmp_split (fun h2 => ?_) (fun h2 => ?_)
    · have e : a[k] = b[k] := cAva_inj.1 h2
      conv => whnf
      refine st_add k 1 (by omega) ?_
      conv => whnf
      refine ⟨k + 1, [], ⟨hkl, ?_⟩, by dsimp only; omega, ?_⟩
      · rw [List.take_succ_eq_append_getElem hkl, List.take_succ_eq_append_getElem hkb, he, e]
      · exact ⟨rfl, rfl, ⟨⟨rfl, rfl⟩, ⟨rfl, rfl⟩, .inl rfl, trivial⟩, ⟨⟨.inl rfl, trivial⟩, ⟨.inl rfl, trivial⟩, trivial⟩, trivial⟩
    · conv => whnf
      refine ⟨.inl (congrArg V.bool (decide_eq_false (fun e => h2 (cAva_inj.2 ?_))).symm), rfl⟩
      subst e; rfl
  · rw [List.length_map] at h1
    conv => whnf
    rw [List.take_of_length_le (by omega), List.take_of_length_le (by omega)] at he
    exact ⟨.inl (congrArg V.bool (decide_eq_true he).symm), rfl⟩
theorem same7_fn (a b : Name) (ha : Mid a) : Fn Tryz.prog X 22 [.v (vName a), .v (vName b)] (.v (.bool (decide (a = b)))) := by
  have hal := ha.len
  refine fn_prog tabOk mixed Tryz.f22 Tryz.func22 (by kernel_rfl) (by kernel_rfl) ?_
  conv => whnf
  refine ⟨rfl, cmp_split (fun h => ?_) (fun h => ?_)⟩
  · rw [List.length_map, List.length_map] at h
    conv => whnf
    exact ⟨.inl (congrArg V.bool (decide_eq_false (fun e => h (by rw [e]))).symm), rfl⟩
  rw [List.length_map, List.length_map] at h
  have hab : a.length = b.length := by omega
  conv => whnf
  refine ⟨Nat, fun k => ⟨27, [(0, .v (vName a)), (1, .v (vName b)), (5, .v (.int .i64 (k : Nat)))], [], []⟩, fun k => k ≤ a.length ∧ a.take k = b.take k, fun k => a.length - k, ⟨0, [], ⟨by omega, rfl⟩, ?_⟩, fun k ⟨hk, he⟩ => ?_⟩
  · exact ⟨rfl, rfl, ⟨.inl rfl, .inl rfl, .inl rfl, trivial⟩, trivial, trivial⟩
  conv => whnf
  refine ⟨rfl, cmp_split (fun h1 => ?_) (fun h1 => ?_)⟩
  · rw [List.length_map] at h1
    have hkl : k < a.length := by omega
    have hkb : k < b.length := by omega
    conv => whnf
    refine ⟨none, by kernel_rfl, ?_⟩; conv => whnf
    refine st_idx hkl rfl ?_
    conv => whnf
    refine st_idx hkb rfl ?_
    conv => whnf
    refine st_callB (one7_fn a[k] b[k] (ha.row _ (List.getElem_mem hkl)).1) ⟨.inl rfl, .inl rfl, trivial⟩ rfl (fun h2 => ?_) (fun h2 => ?_)
    · have e : a[k] = b[k] := of_decide_eq_true h2
      conv => whnf
      refine st_add k 1 (by omega) ?_
      conv => whnf
      refine ⟨k + 1, [], ⟨hkl, ?_⟩, by dsimp only; omega, ?_⟩
      · rw [List.take_succ_eq_append_getElem hkl, List.take_succ_eq_append_getElem hkb, he, e]
      · exact ⟨rfl, rfl, ⟨.inl rfl, .inl rfl, .inl rfl, trivial⟩, trivial, trivial⟩
    · conv => whnf
      refine ⟨.inl (congrArg V.bool (decide_eq_false (fun e => (of_decide_eq_false h2) ?_)).symm), rfl⟩
      subst e; rfl
  · rw [List.length_map] at h1
    conv => whnf
    rw [List.take_of_length_le (by omega), List.take_of_length_le (by omega)] at he
    exact ⟨.inl (congrArg V.bool (decide_eq_true he).symm), rfl⟩
theorem under7_fn (d b : Name) (hd : Mid d) (hb : Mid b) : Fn Tryz.prog X 24 [.v (vName d), .v (vName b)] (.v (.bool (underB d b))) := by
  have hdl := hd.len
  have hbl := hb.len
  refine fn_prog tabOk mixed Tryz.f24 Tryz.func24 (by kernel_rfl) (by kernel_rfl) ?_
  conv => whnf
  refine ⟨rfl, cmp_split (fun h => ?_) (fun h => ?_)⟩
  · rw [List.length_map, List.length_map] at h
    have hle : b.length ≤ d.length := by omega
    conv => whnf
    refine st_minus (d.map cRdn).length (b.map cRdn).length (by simpa using hle) (by simp; omega) ?_
    conv => whnf
    refine st_sub ((d.map cRdn).length - (b.map cRdn).length) (d.map cRdn).length rfl rfl (by omega) (by omega) (by intro c hc; obtain ⟨r, _, rfl⟩ := List.mem_map.1 hc; rfl) (z := (d.drop (d.length - b.length)).map cRdn) ?_ ?_
    · rw [List.take_of_length_le (by omega), List.length_map, List.length_map, List.map_drop]
    conv => whnf
    refine st_callB (same7_fn (d.drop (d.length - b.length)) b ⟨by simp; omega, fun r hr => hd.row r (List.mem_of_mem_drop hr)⟩) ⟨.inl rfl, .inl rfl, trivial⟩ rfl (fun h2 => ?_) (fun h2 => ?_)
    all_goals
      conv => whnf
      exact ⟨.inl (congrArg V.bool (by unfold underB; rw [h2, decide_eq_true hle]; rfl)), rfl⟩
  · rw [List.length_map, List.length_map] at h
    conv => whnf
    exact ⟨.inl (congrArg V.bool (by unfold underB; rw [decide_eq_false (by omega)]; rfl)), rfl⟩
end Go.Proofs.YtjmpkbmgcbalkaaGreatDoor.Rf
/- dn: the walk over a text's pieces, as an iterator without memory. Conditions: at most 10^8 bytes; the sign is no backslash. -/
namespace Go.Proofs.YtjmpkbmgcbalkaaGreatDoor.Dn
open Go.RowKit
set_option linter.unusedVariables false
theorem pieces_fn (p : Nat → Addr) (s : ByteArray) (c : UInt8) : Fn Tryz.prog (envX p) 59 [.v (.agg [.str s, .int .u8 c.toNat])] (.fn 81 [.ro [.str s, .int .u8 c.toNat]]) := by
  refine ⟨enter_of (by kernel_rfl), fun w L vs hE hL ha => ?_⟩
  obtain ⟨v, rfl, cs, rfl, u1, us, e1, _, h1, u2, us2, rfl, _, h2, h3⟩ := one_arg ha
  rw [show us2 = [] from h3, show u1 = .string s from h1, show u2 = .int .u8 c.toNat from h2] at e1
  have e2 : cs = #[.string s, .int .u8 c.toNat] := Array.toList_inj.1 e1
  rw [e2]
  refine (pieces_maker s c w).mono ?_
  rintro e w' ⟨rfl, rfl⟩
  have hh := World.alloc_heap_new w (.cells #[.string s, .int .u8 c.toNat] 80)
  have c0 := cel hh 0 (v := .string s) rfl
  have c1 := cel hh 1 (v := .int .u8 c.toNat) rfl
  refine ⟨_, fun b o => L b o ∨ (b = w.heap.size ∧ o < 2), rfl, below_new _ _, fun b o u h1 h2 => ⟨.inl h1, cell_below h2 (below_new _ _)⟩, fun {b o} h => h.imp id (fun h => by omega), fun {b o} h => ?_, ⟨_, rfl, ?_⟩⟩
  · rcases h with h | ⟨rfl, h⟩
    · obtain ⟨u, hu⟩ := hL h
      exact ⟨u, cell_below hu (below_new _ _)⟩
    · match o, h with
      | 0, _ => exact ⟨_, c0⟩
      | 1, _ => exact ⟨_, c1⟩
  · exact ⟨_, _, rfl, ⟨_, _, rfl, ⟨_, .inr ⟨rfl, by omega⟩, c0, rfl, rfl⟩, ⟨_, .inr ⟨rfl, by omega⟩, c1, rfl, rfl⟩, trivial⟩, rfl⟩
theorem pieces_it (p : Nat → Addr) (s : ByteArray) (c : UInt8) (hs : s.size ≤ 100000000) (hc : c ≠ 92) : It Tryz.prog (envX p) 81 [.ro [.str s, .int .u8 c.toNat]] ((piecesL c s.data.toList).map fun y => [.str (mkB y)]) := by
  refine ⟨enter_of (by kernel_rfl), fun l0 L cvs w0 J Stop hE hL ha h0 hst han hba hrd => ?_⟩
  obtain ⟨v, rfl, b, o, rfl, ⟨u0, l0', c0, _, r0⟩, ⟨u1, l1', c1, _, r1⟩, _⟩ := one_arg ha
  rw [show u0 = .string s from r0] at c0
  rw [show u1 = .int .u8 c.toNat from r1] at c1
  have hJ := fun i Z W h => (hba i Z W h).2.1
  have key := pieces_iter (l0 := l0) (Cx := b) (Co := o) hs hc (fun pre W => ∃ Z, J pre.length Z W) Stop (fun pre W ⟨Z, h⟩ => ⟨(hJ _ Z W h b o _ l0' c0).2, (hJ _ Z W h b (o + 1) _ l1' c1).2⟩) (fun pre W W' ⟨Z, h⟩ hb => ⟨_, hst _ Z W W' h (Upd.of_below hb)⟩)
    (fun pre y rest W hp hy ⟨Z, h⟩ => by
      have hi : ((piecesL c s.data.toList).map fun y => [V.str (mkB y)])[pre.length]? = some [V.str y] := by
        rw [hp, List.getElem?_map, List.getElem?_append_right (Nat.le_refl _), Nat.sub_self]
        simp [mkB]
      obtain ⟨fn, tm, asg, bo, h1, h2⟩ := hrd pre.length [.str y] Z (fun _ => False) W L [.string y] hi h ⟨_, _, rfl, rfl, rfl, rfl⟩ .inl (fun _ h => h.elim) (fun _ h => h)
      refine ⟨fn, tm, asg, bo, h1, h2.mono fun e W' h => ?_⟩
      rcases h with ⟨rfl, h3, _⟩ | h
      · exact .inl ⟨rfl, _, by rw [List.length_append]; exact h3⟩
      · exact .inr h)
    w0 ⟨_, h0⟩
  refine key.mono fun e W' ⟨hv, h⟩ => ⟨hv, ?_⟩
  rcases h with ⟨Z, h⟩ | h
  · exact .inl ⟨Z, by rw [List.length_map]; exact h⟩
  · exact .inr h
end Go.Proofs.YtjmpkbmgcbalkaaGreatDoor.Dn
/- dn: Print, parsed, Parse, Canon. Conditions: texts of at most 10^6 bytes. -/
namespace Go.Proofs.YtjmpkbmgcbalkaaGreatDoor.Dn
open Go.RowKit
set_option linter.unusedVariables false
theorem right_small {d : Name} (h : rightB d = true) : Small d := by
  unfold rightB at h
  simp only [Bool.and_eq_true, decide_eq_true_eq] at h
  refine ⟨by omega, fun r hr => ?_⟩
  have h2 := List.all_eq_true.1 h.2 r hr
  unfold rdnB at h2
  simp only [Bool.and_eq_true, decide_eq_true_eq] at h2
  refine ⟨by omega, fun a ha => ?_⟩
  have h3 := List.all_eq_true.1 h2.2.2 a ha
  unfold avaB typeB at h3
  simp only [Bool.and_eq_true, decide_eq_true_eq] at h3
  have := Txt.size_list a.1
  omega
theorem piecesF_le (c : UInt8) : ∀ (f : Nat) (l : List UInt8), (∀ y ∈ piecesF c f l, y.length ≤ l.length) ∧ (piecesF c f l).length ≤ f + 1
  | 0, l => ⟨fun y hy => by rw [piecesF] at hy; simp at hy; rw [hy]; exact Nat.le_refl _, by rw [piecesF]; simp⟩
  | f + 1, l => by
    obtain ⟨h1, h2⟩ := piecesF_le c f (l.drop (endL c l + 1))
    rw [piecesF]
    split
    · exact ⟨fun y hy => by simp at hy; rw [hy]; exact Nat.le_refl _, by simp⟩
    · refine ⟨fun y hy => ?_, by rw [List.length_cons]; omega⟩
      rcases List.mem_cons.1 hy with rfl | hy
      · rw [List.length_take]; omega
      · have := h1 y hy
        rw [List.length_drop] at this
        omega
theorem pieces_le (c : UInt8) (l : List UInt8) : (∀ y ∈ piecesL c l, y.length ≤ l.length) ∧ (piecesL c l).length ≤ l.length + 2 := piecesF_le c _ l
variable (p : Nat → Addr)
/-- a name's text, none if it isn't right -/
def printedB (d : Name) : ByteArray := if rightB d = true then mkB (nameL d) else ⟨#[]⟩
def codeN (b : Bool) : Int := if b = true then 0 else 70
theorem print_fn (d : Name) : Fn Tryz.prog (envX p) 13 [.v (vName d)] (.tup [.v (.str (printedB d)), .v (.int .i64 (codeN (rightB d)))]) := by
  have hR := right_fn p d
  unfold printedB codeN
  cases hr : rightB d
  · rw [hr] at hR
    refine fn_prog tabOk mixed Tryz.f13 Tryz.func13 (by kernel_rfl) (by kernel_rfl) ?_
    conv => whnf
    refine st_call hR ⟨.inl rfl, trivial⟩ rfl rfl ?_
    conv => whnf
    refine st_call (told_wrong_fn p ⟨#[]⟩) ⟨.inl rfl, trivial⟩ rfl rfl ?_
    conv => whnf
    exact ⟨⟨.inl rfl, .inl rfl, trivial⟩, rfl⟩
  · rw [hr] at hR
    refine fn_prog tabOk mixed Tryz.f13 Tryz.func13 (by kernel_rfl) (by kernel_rfl) ?_
    conv => whnf
    refine st_call hR ⟨.inl rfl, trivial⟩ rfl rfl ?_
    conv => whnf
    refine st_call (printed_fn p d (right_small hr)) ⟨.inl rfl, trivial⟩ rfl rfl ?_
    conv => whnf
    exact ⟨⟨.inl rfl, .inl rfl, trivial⟩, rfl⟩
/-! ### what a text says, part by part -/
def rdnD (q : List UInt8) : Rdn := (rdnOf q).getD []
theorem allM_some {α β : Type} {f : α → Option β} {dflt : α → β} (hd : ∀ a b, f a = some b → dflt a = b) : ∀ l : List α, (∀ a ∈ l, (f a).isSome = true) → allM f l = some (l.map dflt)
  | [], _ => rfl
  | a :: t, h => by
    obtain ⟨b, hb⟩ := Option.isSome_iff_exists.1 (h a (by simp))
    rw [allM, hb, allM_some hd t (fun x hx => h x (by simp [hx])), List.map_cons, hd a b hb]
    rfl
theorem allM_none {α β : Type} {f : α → Option β} : ∀ {l : List α} {a : α}, a ∈ l → f a = none → allM f l = none
  | b :: t, a, h, hn => by
    rw [allM]
    cases hb : f b with
    | none => rfl
    | some y =>
      rcases List.mem_cons.1 h with rfl | h
      · rw [hn] at hb; cases hb
      · dsimp only
        rw [allM_none h hn]; rfl
/-- the first part that says nothing -/
def badRdn (q : List UInt8) : Option ByteArray := ((piecesL 43 q).find? fun x => (partA (mkB x)).isNone).map mkB
def badOf (s : ByteArray) : ByteArray := if s.data.toList = [] then s else ((piecesL 44 s.data.toList).findSome? badRdn).getD s
def parsedV (s : ByteArray) : T := match parsedL s.data.toList with
  | some d => .tup [.v (vName d), .v .nili]
  | none => .tup [.v (.sl []), .v (dnErr (badOf s))]
def avaD (q : List UInt8) : Ava := (partA (mkB q)).getD (⟨#[]⟩, ⟨#[]⟩)
theorem find_first {α : Type} {f : α → Bool} {l : List α} {i : Nat} (hi : i < l.length) (h : ∀ j (hj : j < i), f (l[j]'(by omega)) = false) (h2 : f l[i] = true) : l.find? f = some l[i] := by
  induction l generalizing i with
  | nil => cases hi
  | cons a t ih =>
    cases i with
    | zero => rw [List.find?_cons, show f a = true from h2]; rfl
    | succ n =>
      rw [List.find?_cons, show f a = false from h 0 (by omega)]
      exact ih (by simpa using hi) (fun j hj => h (j + 1) (by omega)) h2
theorem findSome_first {α β : Type} {f : α → Option β} {l : List α} {i : Nat} {b : β} (hi : i < l.length) (h : ∀ j (hj : j < i), f (l[j]'(by omega)) = none) (h2 : f l[i] = some b) : l.findSome? f = some b := by
  induction l generalizing i with
  | nil => cases hi
  | cons a t ih =>
    cases i with
    | zero => rw [List.findSome?_cons, show f a = some b from h2]
    | succ n =>
      rw [List.findSome?_cons, show f a = none from h 0 (by omega)]
      exact ih (by simpa using hi) (fun j hj => h (j + 1) (by omega)) h2
end Go.Proofs.YtjmpkbmgcbalkaaGreatDoor.Dn
