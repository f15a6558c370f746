/- Several texts, one behind the other. filt, walked: whether a text stands at a reader's place. Conditions: texts of at most 10^6 bytes. Between two ways of telling how a slice lies: views, and values without memory. Whatever program; a function's contract told in one way, told in the other one. Contracts of functions of Go's library, as the kit's shelf proves them of whatever program, at this program's numbers. Each states its own conditions. Contracts of functions of Go's library, as the kit's shelf proves them of whatever program, at this program's numbers. Each states its own conditions. -/
import Derived.Test.YtiafggoaedifdaaGreatDoorP15
import Derived.Test.YtiafggoaedifdaaGreatDoorP16
import Derived.Test.YtiafggoaedifdaaGreatDoorP02
import Derived.Test.YtiafggoaedifdaaGreatDoorP01
import Derived.Shelf.Strings.Search3
import Derived.Shelf.Strings.Cut
import Derived.Shelf.Strings.Split
import Derived.Test.YtiafggoaedifdaaGreatDoorProg
import Derived.Shelf.GgClosure.StringsIndexFuncTop
/- filt, walked: whether a text stands at a reader's place. Conditions: texts of at most 10^6 bytes. -/
namespace Go.Proofs.YtiafggoaedifdaaGreatDoor.Fi
open Go.RowKit
set_option linter.unusedVariables false
variable {X : En}
def preB (s t : ByteArray) : Bool := decide (t.size ≤ s.size) && decide (s.extract 0 t.size = t)
theorem prefix2_fn (s t : ByteArray) : Fn Tryz.prog X 152 [.v (.str s), .v (.str t)] (.v (.bool (preB s t))) := by
 refine fn_prog tabOk mixed Tryz.f152 Tryz.func152 (by kernel_rfl) (by kernel_rfl) ?_
 conv => whnf
 refine ⟨rfl, cmp_split (fun h => ?_) (fun h => ?_)⟩
 ·conv => whnf
  refine st_cut 0 t.size rfl rfl (by omega) (by omega) ?_
  conv => whnf
  refine cmp_split (fun h2 => ?_) (fun h2 => ?_)
  all_goals
   conv => whnf
   exact ⟨.inl (congrArg V.bool (by unfold preB; rw [decide_eq_true (by omega)]; simp [h2])), rfl⟩
 ·conv => whnf
  exact ⟨.inl (congrArg V.bool (by unfold preB; rw [decide_eq_false (by omega)]; rfl)), rfl⟩
theorem prefix_fn (s t : ByteArray) : Fn Tryz.prog X 138 [.v (.str s), .v (.str t)] (.v (.bool (preB s t))) := by
 refine fn_prog tabOk mixed Tryz.f138 Tryz.func138 (by kernel_rfl) (by kernel_rfl) ?_
 conv => whnf
 (refine st_call (prefix2_fn s t) ?_ rfl rfl ?_; (focus (repeat' first|exact trivial|exact rfl|exact .inl rfl|exact .inr ⟨rfl,rfl⟩|refine And.intro ?_ ?_)); conv => whnf)
 exact ⟨.inl rfl, rfl⟩
def rdC (s : ByteArray) (a : Nat) : List T := [.v (.str s), .v (.int .i64 (a : Nat))]
def atB (s : ByteArray) (a : Nat) (t : ByteArray) : Bool := preB (s.extract a s.size) t
theorem is_fn (s : ByteArray) (a : Nat) (ha : a ≤ s.size) (t : ByteArray) : FnM Tryz.prog X 122 [rdC s a] [.ptr 0 0, .v (.str t)] (.v (.bool (atB s a t))) [rdC s a] := by
 refine fnM_prog tabOk mixed Tryz.f122 Tryz.func122 (by kernel_rfl) (by kernel_rfl) rfl rfl rfl rfl ?_
 conv => whnf
 refine ⟨none, by kernel_rfl, ?_⟩; conv => whnf
 refine st_cut a s.size rfl rfl ha (by omega) ?_
 conv => whnf
 (refine st_call (prefix_fn (s.extract a s.size) t) ?_ rfl rfl ?_; (focus (repeat' first|exact trivial|exact rfl|exact .inl rfl|exact .inr ⟨rfl,rfl⟩|refine And.intro ?_ ?_)); conv => whnf)
 exact ⟨⟨.inl rfl, rfl⟩, ⟨⟨.inl rfl, .inl rfl, trivial⟩, trivial⟩⟩
theorem preB_size {s t : ByteArray} (h : preB s t = true) : t.size ≤ s.size := by
 unfold preB at h
 rw [Bool.and_eq_true] at h
 exact of_decide_eq_true h.1
theorem atB_size {s t : ByteArray} {a : Nat} (h : atB s a t = true) (ha : a ≤ s.size) : a + t.size ≤ s.size := by
 have := preB_size h
 rw [ByteArray.size_extract] at this
 omega
theorem takes_fn (s : ByteArray) (hs : s.size ≤ 100000000) (a : Nat) (ha : a ≤ s.size) (t : ByteArray) : FnM Tryz.prog X 94 [rdC s a] [.ptr 0 0, .v (.str t)] (.v (.bool (atB s a t))) [rdC s (if atB s a t = true then a + t.size else a)] := by
 refine fnM_prog tabOk mixed Tryz.f94 Tryz.func94 (by kernel_rfl) (by kernel_rfl) rfl rfl rfl rfl ?_
 conv => whnf
 have hi := is_fn (X := X) s a ha t
 cases hb : atB s a t
 ·rw [hb] at hi
  (refine st_callM [18] (hi) rfl ?_ ?_ rfl ?_; (focus (repeat' first|exact trivial|exact rfl|exact .inl rfl|exact .inr ⟨rfl,rfl⟩|refine And.intro ?_ ?_)); (focus (repeat' first|exact trivial|exact rfl|exact .inl rfl|exact .inr ⟨rfl,rfl⟩|refine And.intro ?_ ?_)); conv => whnf)
  exact ⟨⟨.inl rfl, rfl⟩, ⟨⟨.inl rfl, .inl rfl, trivial⟩, trivial⟩⟩
 ·rw [hb] at hi
  have hsz := atB_size hb ha
  (refine st_callM [18] (hi) rfl ?_ ?_ rfl ?_; (focus (repeat' first|exact trivial|exact rfl|exact .inl rfl|exact .inr ⟨rfl,rfl⟩|refine And.intro ?_ ?_)); (focus (repeat' first|exact trivial|exact rfl|exact .inl rfl|exact .inr ⟨rfl,rfl⟩|refine And.intro ?_ ?_)); conv => whnf)
  refine st_add a t.size (by omega) ?_
  conv => whnf
  exact ⟨⟨.inl rfl, rfl⟩, ⟨⟨.inl rfl, .inl rfl, trivial⟩, trivial⟩⟩
end Go.Proofs.YtiafggoaedifdaaGreatDoor.Fi
/- Between two ways of telling how a slice lies: views, and values without memory. Whatever program; a function's contract told in one way, told in the other one. -/
namespace Go.Proofs.YtiafggoaedifdaaGreatDoor
open Go.RowKit
set_option linter.unusedVariables false
def Lall (w : World) : Lv := fun b o => ∃ u, w.cell? ⟨b, o, none⟩ = some u
theorem rep_view {α : Type} {k : Nat} {enc : α → List V} {R : View α} {w : World} {L : Lv} (hk0 : 0 < k) (hk : ∀ x, (enc x).length = k) (hR : ∀ x cs, RepL w L (enc x) cs → R w (fun _ => True) cs x) {xs : List α} {v : Value} (h : Rep w L (.sl (xs.map enc)) v) : VSlice k R w (fun _ => True) [v] xs := by
 obtain ⟨A, c, rfl, hl, hx⟩ := h
 rw [List.length_map] at hl
 refine ⟨A, c, by rw [List.length_map], hl, fun hn => ?_⟩
 obtain ⟨b, o, e, rfl, hr⟩ := hx (by simpa using hn)
 have key : ∀ (j : Nat) (x : α), xs[j]? = some x → ∃ ws, R w (fun _ => True) ws x ∧ ws.length = k ∧ e = k ∧ ∀ (i : Nat) (u : Value), ws[i]? = some u → w.cell? ⟨b, o + (j * k + i), none⟩ = some u := fun j x hj => by
  obtain ⟨h1, h2⟩ := hr.get (i := j) (c := enc x) (by rw [List.getElem?_map, hj]; rfl)
  obtain ⟨cs, c1, c2, c3⟩ := h2.vals
  have he : e = k := by rw [← h1, hk]
  subst he
  exact ⟨cs, hR x cs c2, by rw [c1, hk], rfl, fun i u hu => by rw [show o + (j * e + i) = o + j * e + i by omega]; exact c3 i u hu⟩
 refine ⟨b, o, rfl, trivial, ?_, fun j x hj => ?_⟩
 ·obtain ⟨x, t, rfl⟩ : ∃ x t, xs = x :: t := by cases xs with
   | nil => exact absurd rfl hn
   | cons x t => exact ⟨x, t, rfl⟩
  obtain ⟨ws, h1, h2, h3, h4⟩ := key 0 x rfl
  obtain ⟨u, hu⟩ : ∃ u, ws[0]? = some u := ⟨_, List.getElem?_eq_getElem (by omega)⟩
  exact World.block_lt_of_cell? w _ (h4 0 u hu)
 ·obtain ⟨ws, h1, _, _, h2⟩ := key j x hj
  exact ⟨ws, h1, h2⟩
theorem view_rep {α : Type} {k : Nat} {enc : α → List V} {R : View α} {w : World} (hR : ∀ x cs, R w (fun _ => True) cs x → RepL w (Lall w) (enc x) cs) (hk : ∀ x, (enc x).length = k) {xs : List α} {v : Value} (h : VSlice k R w (fun _ => True) [v] xs) : Rep w (Lall w) (.sl (xs.map enc)) v := by
 obtain ⟨A, c, rfl, hl, hx⟩ := h.open
 refine ⟨A, c, by rw [List.length_map], by rw [List.length_map]; exact hl, fun hn => ?_⟩
 obtain ⟨b, o, rfl, _, _, hr⟩ := hx (by simpa using hn)
 refine ⟨b, o, k, rfl, RepE.of_get _ _ fun i cc hc => ?_⟩
 rw [List.getElem?_map] at hc
 obtain ⟨x, hxi, rfl⟩ := Option.map_eq_some_iff.1 hc
 obtain ⟨ws, h1, h2⟩ := hr i x hxi
 have h3 := hR x ws h1
 refine ⟨hk x, RepC.of_get _ _ fun j y hy => ?_⟩
 obtain ⟨u, hu, ho, hru⟩ := h3.get hy
 have := h2 j u hu
 rw [show o + (i * k + j) = o + i * k + j by omega] at this
 exact ⟨u, ⟨u, this⟩, this, ho, hru⟩
theorem Fn.of_plain {P : Program} {X : En} {f : FuncId} {args : List T} {r : V} (hen : ∀ (vs : Array Value) (w : World), (callFunc f vs).run P w = .ok (.enter f vs) w) (hr : zok r = true)
  (h : ∀ (w : World) (L : Lv) (vs : List Value), X.E w → RepTs P w ⟨L, fun _ => (0, 0), fun _ => undef⟩ args vs → Calls P f vs.toArray w fun e w' => e = .returned (zv r) ∧ Below w.heap.size w w') : Fn P X f args (.v r) :=
 ⟨hen, fun w L vs hE hL ha => (h w L vs hE ha).mono fun e w' ⟨he, hb⟩ => ⟨zv r, L, he, hb, Same.of_below hb, .inl, fun hl => let ⟨u, hu⟩ := hL hl; ⟨u, cell_below hu hb⟩, by cases r <;> first | rfl | cases hr⟩⟩
def sen (p : Nat → Addr) (n : Nat) : V := .ifc 266 (.raw (.pointer (some (p n))))
def envX (p : Nat → Addr) : En where
 E := fun w => Env w p
 Eb := fun b => b ∈ senNums ∨ (∃ n, n ∈ senNums ∧ (p n).block = b) ∨ b = 4 ∨ b = 7 ∨ b = 11 ∨ b = 12
 lt := fun {w b} h hb => by
  rcases hb with hb | ⟨n, hn, rfl⟩ | rfl | rfl | rfl | rfl
  ·have := World.block_lt_of_cell? w _ (h.gl.cell b hb); simpa using this
  ·obtain ⟨c, t, hc⟩ := h.gl.blk n hn; exact (Array.getElem?_eq_some_iff.1 hc).1
  ·have := World.block_lt_of_cell? w _ h.gl.et; simpa using this
  ·obtain ⟨m, hm⟩ := h.ml; have := World.block_lt_of_cell? w _ hm; simpa using this
  ·have := World.block_lt_of_cell? w _ (h.ut.1 0 (by omega)); simpa using this
  ·have := World.block_lt_of_cell? w _ (h.ut.2 0 (by omega)).1; simpa using this
 upd := fun {S w w'} hu hS h => by
  refine ⟨h.gl.upd ⟨fun n hn => ⟨fun hs => hS n hs (.inl hn), fun hs => hS _ hs (.inr (.inl ⟨n, hn, rfl⟩))⟩, fun hs => hS _ hs (.inr (.inr (.inl rfl)))⟩ hu, h.ml.imp fun m hm => hu.cell hm (fun hs => hS _ hs (.inr (.inr (.inr (.inl rfl))))), ⟨fun c hc => hu.cell (h.ut.1 c hc) (fun hs => hS _ hs (.inr (.inr (.inr (.inr (.inl rfl)))))), fun i hi => ⟨hu.cell (h.ut.2 i hi).1 (fun hs => hS _ hs (.inr (.inr (.inr (.inr (.inr rfl)))))), hu.cell (h.ut.2 i hi).2 (fun hs => hS _ hs (.inr (.inr (.inr (.inr (.inr rfl))))))⟩⟩⟩
 gv := fun n v => n ∈ senNums ∧ v = sen p n
 gl := fun {w gn v} h hg => ⟨.inl hg.1, _, h.gl.cell gn hg.1, by rw [hg.2]; rfl, fun L => by rw [hg.2]; exact ⟨_, rfl, rfl⟩⟩
end Go.Proofs.YtiafggoaedifdaaGreatDoor
/- Contracts of functions of Go's library, as the kit's shelf proves them of whatever program, at this program's numbers. Each states its own conditions. -/
namespace Go.Proofs.YtiafggoaedifdaaGreatDoor
open Go.Shelf
def Shelf.Laysn144_ren : Go.Shelf.Ren := ⟨fun | 143 => 102 | 144 => 73 | 217 => 142 | 219 => 130 | 224 => 144 | 225 => 143 | 266 => 155 | 267 => 145 | 314 => 156 | n => n, fun | 3 => 3 | 4 => 4 | 5 => 5 | 9 => 9 | 46 => 74 | 51 => 229 | 146 => 230 | n => n, fun | 1 => 7 | n => n⟩
theorem Shelf.Laysn144 : Go.Proofs.Lays.n144 Tryz.prog Shelf.Laysn144_ren := {
 mixed := by kernel_rfl
 f143 := Tryz.func102.trans (congrArg some (by kernel_rfl))
 f144 := Tryz.func73.trans (congrArg some (by kernel_rfl))
 f217 := Tryz.func142.trans (congrArg some (by kernel_rfl))
 f219 := Tryz.func130.trans (congrArg some (by kernel_rfl))
 f224 := Tryz.func144.trans (congrArg some (by kernel_rfl))
 f225 := Tryz.func143.trans (congrArg some (by kernel_rfl))
 f266 := Tryz.func155.trans (congrArg some (by kernel_rfl))
 f267 := Tryz.func145.trans (congrArg some (by kernel_rfl))
 f314 := Tryz.func156.trans (congrArg some (by kernel_rfl))
 t3 := Tryz.underlying3
 a3 := Tryz.isAgg3
 z3 := Tryz.sizeOf3
 v3 := Tryz.zeroValue3
 t4 := Tryz.underlying4
 a4 := Tryz.isAgg4
 z4 := Tryz.sizeOf4
 v4 := Tryz.zeroValue4
 t5 := Tryz.underlying5
 a5 := Tryz.isAgg5
 z5 := Tryz.sizeOf5
 v5 := Tryz.zeroValue5
 t9 := Tryz.underlying9
 a9 := Tryz.isAgg9
 z9 := Tryz.sizeOf9
 v9 := Tryz.zeroValue9
 t46 := Tryz.underlying74
 a46 := Tryz.isAgg74
 z46 := Tryz.sizeOf74
 v46 := Tryz.zeroValue74
 t51 := Tryz.underlying229
 a51 := Tryz.isAgg229
 z51 := Tryz.sizeOf229
 v51 := Tryz.zeroValue229
 t146 := Tryz.underlying230
 a146 := Tryz.isAgg230
 z146 := Tryz.sizeOf230
 v146 := Tryz.zeroValue230
 g1 := by kernel_rfl }
open Go.RowKit Go.Lib in
theorem Shelf.strings_Contains  (s sub : ByteArray) (m : Int) (w : World) (hs : s.size < 4294967281) (hm : w.cell? ⟨7, 0, none⟩ = some (.int .i64 m)) :
  Calls Tryz.prog 73 #[.string s, .string sub] w fun e w' => e = .returned (.bool (Lib.contains s.data.toList sub.data.toList)) ∧ w' = w := Any.strings_Contains Shelf.Laysn144  s sub m w hs hm
open Go.RowKit Go.Lib in
theorem Shelf.strings_Contains_one  (s : ByteArray) (c : UInt8) (w : World) :
  Calls Tryz.prog 73 #[.string s, .string ⟨#[c]⟩] w fun e w' => e = .returned (.bool (decide (0 ≤ Lib.indexByte s.data.toList c))) ∧ w' = w := Any.strings_Contains_one Shelf.Laysn144  s c w
def Shelf.Laysn145_ren : Go.Shelf.Ren := ⟨fun | 145 => 96 | 217 => 142 | 219 => 130 | 220 => 124 | 224 => 144 | 225 => 143 | 266 => 155 | 267 => 145 | 314 => 156 | n => n, fun | 3 => 3 | 4 => 4 | 5 => 5 | 9 => 9 | 46 => 74 | 51 => 229 | 59 => 145 | 146 => 230 | n => n, fun | 1 => 7 | n => n⟩
theorem Shelf.Laysn145 : Go.Proofs.Lays.n145 Tryz.prog Shelf.Laysn145_ren := {
 mixed := by kernel_rfl
 f145 := Tryz.func96.trans (congrArg some (by kernel_rfl))
 f217 := Tryz.func142.trans (congrArg some (by kernel_rfl))
 f219 := Tryz.func130.trans (congrArg some (by kernel_rfl))
 f220 := Tryz.func124.trans (congrArg some (by kernel_rfl))
 f224 := Tryz.func144.trans (congrArg some (by kernel_rfl))
 f225 := Tryz.func143.trans (congrArg some (by kernel_rfl))
 f266 := Tryz.func155.trans (congrArg some (by kernel_rfl))
 f267 := Tryz.func145.trans (congrArg some (by kernel_rfl))
 f314 := Tryz.func156.trans (congrArg some (by kernel_rfl))
 t3 := Tryz.underlying3
 a3 := Tryz.isAgg3
 z3 := Tryz.sizeOf3
 v3 := Tryz.zeroValue3
 t4 := Tryz.underlying4
 a4 := Tryz.isAgg4
 z4 := Tryz.sizeOf4
 v4 := Tryz.zeroValue4
 t5 := Tryz.underlying5
 a5 := Tryz.isAgg5
 z5 := Tryz.sizeOf5
 v5 := Tryz.zeroValue5
 t9 := Tryz.underlying9
 a9 := Tryz.isAgg9
 z9 := Tryz.sizeOf9
 v9 := Tryz.zeroValue9
 t46 := Tryz.underlying74
 a46 := Tryz.isAgg74
 z46 := Tryz.sizeOf74
 v46 := Tryz.zeroValue74
 t51 := Tryz.underlying229
 a51 := Tryz.isAgg229
 z51 := Tryz.sizeOf229
 v51 := Tryz.zeroValue229
 t59 := Tryz.underlying145
 a59 := Tryz.isAgg145
 z59 := Tryz.sizeOf145
 v59 := Tryz.zeroValue145
 t146 := Tryz.underlying230
 a146 := Tryz.isAgg230
 z146 := Tryz.sizeOf230
 v146 := Tryz.zeroValue230
 g1 := by kernel_rfl }
open Go.RowKit Go.Lib in
theorem Shelf.strings_Cut  (s sep : ByteArray) (m : Int) (w : World) (hs : s.size < 4294967281) (hm : w.cell? ⟨7, 0, none⟩ = some (.int .i64 m)) :
  Calls Tryz.prog 96 #[.string s, .string sep] w fun e w' => e = .returned (.tuple #[.string ⟨(Lib.cut s.data.toList sep.data.toList).1.toArray⟩, .string ⟨(Lib.cut s.data.toList sep.data.toList).2.1.toArray⟩, .bool (Lib.cut s.data.toList sep.data.toList).2.2]) ∧ ∃ n, w' = w.drewN n := Any.strings_Cut Shelf.Laysn145  s sep m w hs hm
def Shelf.Laysn146_ren : Go.Shelf.Ren := ⟨fun | 138 => 101 | 143 => 102 | 146 => 45 | 195 => 127 | 197 => 128 | 217 => 142 | 218 => 129 | 219 => 130 | 221 => 71 | 224 => 144 | 225 => 143 | 260 => 141 | 266 => 155 | 267 => 145 | 268 => 100 | 314 => 156 | n => n, fun | 0 => 0 | 3 => 3 | 4 => 4 | 5 => 5 | 9 => 9 | 21 => 21 | 31 => 22 | 46 => 74 | 51 => 229 | 105 => 200 | 119 => 225 | 138 => 227 | 139 => 228 | 146 => 230 | n => n, fun | 1 => 7 | 3 => 11 | 4 => 12 | n => n⟩
theorem Shelf.Laysn146 : Go.Proofs.Lays.n146 Tryz.prog Shelf.Laysn146_ren := {
 mixed := by kernel_rfl
 f138 := Tryz.func101.trans (congrArg some (by kernel_rfl))
 f143 := Tryz.func102.trans (congrArg some (by kernel_rfl))
 f146 := Tryz.func45.trans (congrArg some (by kernel_rfl))
 f195 := Tryz.func127.trans (congrArg some (by kernel_rfl))
 f197 := Tryz.func128.trans (congrArg some (by kernel_rfl))
 f217 := Tryz.func142.trans (congrArg some (by kernel_rfl))
 f218 := Tryz.func129.trans (congrArg some (by kernel_rfl))
 f219 := Tryz.func130.trans (congrArg some (by kernel_rfl))
 f221 := Tryz.func71.trans (congrArg some (by kernel_rfl))
 f224 := Tryz.func144.trans (congrArg some (by kernel_rfl))
 f225 := Tryz.func143.trans (congrArg some (by kernel_rfl))
 f260 := Tryz.func141.trans (congrArg some (by kernel_rfl))
 f266 := Tryz.func155.trans (congrArg some (by kernel_rfl))
 f267 := Tryz.func145.trans (congrArg some (by kernel_rfl))
 f268 := Tryz.func100.trans (congrArg some (by kernel_rfl))
 f314 := Tryz.func156.trans (congrArg some (by kernel_rfl))
 t0 := Tryz.underlying0
 a0 := Tryz.isAgg0
 z0 := Tryz.sizeOf0
 v0 := Tryz.zeroValue0
 t3 := Tryz.underlying3
 a3 := Tryz.isAgg3
 z3 := Tryz.sizeOf3
 v3 := Tryz.zeroValue3
 t4 := Tryz.underlying4
 a4 := Tryz.isAgg4
 z4 := Tryz.sizeOf4
 v4 := Tryz.zeroValue4
 t5 := Tryz.underlying5
 a5 := Tryz.isAgg5
 z5 := Tryz.sizeOf5
 v5 := Tryz.zeroValue5
 t9 := Tryz.underlying9
 a9 := Tryz.isAgg9
 z9 := Tryz.sizeOf9
 v9 := Tryz.zeroValue9
 t21 := Tryz.underlying21
 a21 := Tryz.isAgg21
 z21 := Tryz.sizeOf21
 v21 := Tryz.zeroValue21
 t31 := Tryz.underlying22
 a31 := Tryz.isAgg22
 z31 := Tryz.sizeOf22
 v31 := Tryz.zeroValue22
 t46 := Tryz.underlying74
 a46 := Tryz.isAgg74
 z46 := Tryz.sizeOf74
 v46 := Tryz.zeroValue74
 t51 := Tryz.underlying229
 a51 := Tryz.isAgg229
 z51 := Tryz.sizeOf229
 v51 := Tryz.zeroValue229
 t105 := Tryz.underlying200
 a105 := Tryz.isAgg200
 z105 := Tryz.sizeOf200
 v105 := Tryz.zeroValue200
 t119 := Tryz.underlying225
 a119 := Tryz.isAgg225
 z119 := Tryz.sizeOf225
 t138 := Tryz.underlying227
 a138 := Tryz.isAgg227
 z138 := Tryz.sizeOf227
 v138 := Tryz.zeroValue227
 t139 := Tryz.underlying228
 a139 := Tryz.isAgg228
 z139 := Tryz.sizeOf228
 v139 := Tryz.zeroValue228
 t146 := Tryz.underlying230
 a146 := Tryz.isAgg230
 z146 := Tryz.sizeOf230
 v146 := Tryz.zeroValue230
 g1 := by kernel_rfl
 g3 := by kernel_rfl
 g4 := by kernel_rfl }
open Go.RowKit Go.Lib in
theorem Shelf.strings_Split  (s sep : ByteArray) (m : Int) (w : World) (hs : s.size < 4294967281) (hm : w.cell? ⟨7, 0, none⟩ = some (.int .i64 m)) (h1 : 1 ≤ sep.size) :
  Calls Tryz.prog 45 #[.string s, .string sep] w fun e w' =>
   e = .returned (.slice (some ⟨w.heap.size, 0, none⟩) (Lib.countB s sep + 1) (Lib.countB s sep + 1)) ∧ w' = w.alloc (.cells ((Lib.splitB sep 0 (Lib.countB s sep) s).map Value.string).toArray 9) := Any.strings_Split Shelf.Laysn146  (by kernel_rfl) s sep m w hs hm h1
end Go.Proofs.YtiafggoaedifdaaGreatDoor
/- Contracts of functions of Go's library, as the kit's shelf proves them of whatever program, at this program's numbers. Each states its own conditions. -/
namespace Go.Proofs.YtiafggoaedifdaaGreatDoor
open Go.Shelf
def Shelf.LaysGwn17_ren : Go.Shelf.Ren := ⟨fun | 15 => 104 | 17 => 77 | 20 => 131 | n => n, fun | 0 => 0 | 3 => 3 | 4 => 4 | 9 => 9 | 21 => 21 | 23 => 109 | n => n, fun  | n => n⟩
theorem Shelf.LaysGwn17 : Go.Proofs.LaysGw.n17 Tryz.prog Shelf.LaysGwn17_ren := {
 mixed := by kernel_rfl
 f15 := Tryz.func104.trans (congrArg some (by kernel_rfl))
 f17 := Tryz.func77.trans (congrArg some (by kernel_rfl))
 f20 := Tryz.func131.trans (congrArg some (by kernel_rfl))
 t0 := Tryz.underlying0
 a0 := Tryz.isAgg0
 z0 := Tryz.sizeOf0
 v0 := Tryz.zeroValue0
 i0 := by kernel_rfl
 t3 := Tryz.underlying3
 a3 := Tryz.isAgg3
 z3 := Tryz.sizeOf3
 v3 := Tryz.zeroValue3
 i3 := by kernel_rfl
 t4 := Tryz.underlying4
 a4 := Tryz.isAgg4
 z4 := Tryz.sizeOf4
 v4 := Tryz.zeroValue4
 i4 := by kernel_rfl
 t9 := Tryz.underlying9
 a9 := Tryz.isAgg9
 z9 := Tryz.sizeOf9
 v9 := Tryz.zeroValue9
 i9 := by kernel_rfl
 t21 := Tryz.underlying21
 a21 := Tryz.isAgg21
 z21 := Tryz.sizeOf21
 v21 := Tryz.zeroValue21
 i21 := by kernel_rfl
 t23 := Tryz.underlying109
 a23 := Tryz.isAgg109
 z23 := Tryz.sizeOf109
 v23 := Tryz.zeroValue109
 i23 := by kernel_rfl }
open Go.RowKit Go.Lib in
theorem Shelf.strings_ContainsFunc  (g : Nat) (lb : Array Value) (eg : ∀ args w, (callFunc g args).run Tryz.prog w = .ok (.enter g args) w) (p : Nat → Bool) (s : ByteArray) (w : World) (hp : PredAt Tryz.prog g lb encR p w) :
  Calls Tryz.prog 77 #[.string s, .func (.func g) #[] lb] w fun e w' => e = .returned (.bool (decide (0 ≤ Lib.idxFunc p true s))) ∧ Below w.heap.size w w' := Any.strings_ContainsFunc Shelf.LaysGwn17  g lb eg p s w hp
end Go.Proofs.YtiafggoaedifdaaGreatDoor
