/- Several texts, one behind the other. slices.EqualFunc at []api.Rdn: two lists, one by one. Conditions: both read as they lie; what the function that is handed in answers of each two. Contracts of functions of Go's library, as the kit's shelf proves them of whatever program, at this program's numbers. Each states its own conditions. Contracts of functions of Go's library, as the kit's shelf proves them of whatever program, at this program's numbers. Each states its own conditions. dn: which names are right, the same, under each other (isAva, Right, isSame, Same, IsUnder). Conditions: the names read as they lie. The built-in max and min of two ints, as laws for the walk, their result named. No conditions. dn: which names are the same, and under each other (isSame, Same, IsUnder). Conditions: the names read as they lie. dn: a text's next sign (end). Conditions: at most 10^9 bytes; the sign is no backslash. dn: the walk over a text's pieces. Conditions: at most 10^9 bytes; the sign is no backslash. Slices of bytes: that they read as lists; texts made of them, and they of texts. Conditions: the shape of memory that each theorem names. code.Hex. Conditions: the text has at most 10^8 bytes. -/
import Derived.Test.YtjmpkbmgcbalkaaGreatDoorM08
import Derived.Deep.LoopGhost
import Derived.Outline
import Derived.Shelf.SlicesQ.IndexFunc
import Derived.Test.YtjmpkbmgcbalkaaGreatDoorProg
import Derived.Test.YtjmpkbmgcbalkaaGreatDoorM11
import Derived.Deep.QuietTactic
import Derived.BigQuiet
import Derived.Test.YtjmpkbmgcbalkaaGreatDoorM01
import Derived.BigFrame
import Derived.Laws.Slices
import Derived.Test.YtjmpkbmgcbalkaaGreatDoorM06
import Derived.Test.YtjmpkbmgcbalkaaGreatDoorM10
import Derived.Laws.BytesArg
import Derived.Laws.BytesString
import Derived.Laws.IdiomStrings
import Derived.Lib.ConvBytes
import Derived.Deep.RegionHeld3
/- slices.EqualFunc at []api.Rdn: two lists, one by one. Conditions: both read as they lie; what the function that is handed in answers of each two. -/
namespace Go.Proofs.YtjmpkbmgcbalkaaGreatDoor.EqFRdn
open Go.RowKit
set_option linter.unusedVariables false
set_option maxRecDepth 100000 in
theorem equal_calls {α : Type} {R : View α} (hR : R.Ok 1) (hsh : ∀ {w : World} {av : Nat → Prop} {ws : List Value} {x : α}, R w av ws x → ∃ zA0 zn0 zc0, ws = [.slice zA0 zn0 zc0]) (eq : α → α → Bool) (g : Nat) (eg : ∀ args w, (callFunc g args).run Tryz.prog w = .ok (.enter g args) w) (v v' : Value) (xs ys : List α) (w : World) (hx : VSlice 1 R w (fun _ => True) [v] xs) (hy : VSlice 1 R w (fun _ => True) [v'] ys)
    (hg : ∀ (W : World) (vx vy : List Value) (x y : α), x ∈ xs → Below w.heap.size w W → R W (fun _ => True) vx x → R W (fun _ => True) vy y → Calls Tryz.prog g #[.agg vx.toArray, .agg vy.toArray] W fun e w' => e = .returned (.bool (eq x y)) ∧ Below W.heap.size W w') (hz : xs.length ≤ 1000000000) :
    Calls Tryz.prog 40 #[v, v', .func (.func g) #[] #[]] w fun e w' => e = .returned (.bool (eqL eq xs ys)) ∧ Below w.heap.size w w' := by
  obtain ⟨A, c, rfl, _, hx⟩ := hx.open
  obtain ⟨A', c', rfl, _, hy⟩ := hy.open
  have HX := Aside.mk hx
  have HY := Aside.mk hy
  have HG := Aside.mk hg
  clear hx hy hg
  by_cases hl : xs.length = ys.length
  · have HL := Aside.mk hl
    have q0 : ((xs.length : Int) != (ys.length : Int)) = false := by simp [hl]
    have HE := Aside.mk (eqL_len eq xs ys hl)
    clear hl
    go_enter Tryz.func40, Tryz.ntmps40
    go_wp2_with fail
    go_loopg [17] xs.length (fun gk v17 wr => ∃ (k : Nat), v17 = .int .i64 k ∧ Aside (k + gk = xs.length ∧ eqL eq xs ys = eqL eq (xs.drop k) (ys.drop k) ∧ Below w.heap.size w wr))
    case atStart => exact ⟨0, rfl, ⟨by omega, rfl, Below.refl _ _⟩⟩
    case round =>
      obtain ⟨k, rfl, HI⟩ := hrel
      obtain ⟨i1, i2, i3⟩ := HI.out
      clear HI q0
      have I2 := Aside.mk i2
      have I3 := Aside.mk i3
      clear i2 i3
      by_cases hk : k < xs.length
      · obtain ⟨m, rfl⟩ : ∃ m, gk = m + 1 := ⟨gk - 1, by omega⟩
        have hki : (k : Int) < (xs.length : Int) := by omega
        have hkX := hk
        have hkY : k < ys.length := by have := HL.out; omega
        have hkyi : (k : Int) < (ys.length : Int) := by omega
        have HS := Aside.mk (show eqL eq (xs.drop k) (ys.drop k) = (eq xs[k] ys[k] && eqL eq (xs.drop (k + 1)) (ys.drop (k + 1))) by rw [List.drop_eq_getElem_cons hk, List.drop_eq_getElem_cons hkY]; rfl)
        have HMem := Aside.mk (List.getElem_mem hk)
        obtain ⟨bX, oX, rfl, _, hblX, hcellX⟩ := HX.out (by rintro rfl; simp at hkX)
        obtain ⟨wsX, eX, fX⟩ := hcellX k _ (List.getElem?_eq_getElem hkX)
        obtain ⟨xA0, xn0, xc0, rfl⟩ := hsh eX
        have cX0 : wr.cell? ⟨bX, oX + k, none⟩ = some (.slice xA0 xn0 xc0) := by
          have := cell_below (fX 0 _ rfl) I3.out
          simpa [Nat.add_assoc] using this
        have rX := hR.below eX I3.out
        have lX : bX < wr.heap.size := Nat.lt_of_lt_of_le hblX I3.out.size
        have nX : bX ≠ wr.heap.size := Nat.ne_of_lt lX
        obtain ⟨bY, oY, rfl, _, hblY, hcellY⟩ := HY.out (by rintro rfl; simp at hkY)
        obtain ⟨wsY, eY, fY⟩ := hcellY k _ (List.getElem?_eq_getElem hkY)
        obtain ⟨yA0, yn0, yc0, rfl⟩ := hsh eY
        have cY0 : wr.cell? ⟨bY, oY + k, none⟩ = some (.slice yA0 yn0 yc0) := by
          have := cell_below (fY 0 _ rfl) I3.out
          simpa [Nat.add_assoc] using this
        have rY := hR.below eY I3.out
        have lY : bY < wr.heap.size := Nat.lt_of_lt_of_le hblY I3.out.size
        have nY : bY ≠ wr.heap.size := Nat.ne_of_lt lY
        generalize xs[k] = x at HS HMem rX eX
        generalize ys[k] = y at HS rY eY
        have RX := Aside.mk rX
        have RY := Aside.mk rY
        clear rX rY eX eY fX fY hcellX hcellY
        have hsz : wr.heap.size < wr.heap.size + 1 := by omega
        go_wp2_with fail
        refine (HG.out _ [.slice xA0 xn0 xc0] [.slice yA0 yn0 yc0] x y HMem.out ?hb ?hx ?hy).mono ?_
        case hb => exact below_then I3.out (below_then (below_new wr (.cells #[.slice xA0 xn0 xc0] 42)) (below_new (wr.alloc (.cells #[.slice xA0 xn0 xc0] 42)) (.cells #[.slice yA0 yn0 yc0] 42)))
        case hx => exact hR.below RX.out (below_then (below_new wr (.cells #[.slice xA0 xn0 xc0] 42)) (below_new (wr.alloc (.cells #[.slice xA0 xn0 xc0] 42)) (.cells #[.slice yA0 yn0 yc0] 42)))
        case hy => exact hR.below RY.out (below_then (below_new wr (.cells #[.slice xA0 xn0 xc0] 42)) (below_new (wr.alloc (.cells #[.slice xA0 xn0 xc0] 42)) (.cells #[.slice yA0 yn0 yc0] 42)))
        rintro e w1 ⟨rfl, hb⟩
        have HB := Aside.mk (below_then (below_then I3.out (below_then (below_new wr (.cells #[.slice xA0 xn0 xc0] 42)) (below_new (wr.alloc (.cells #[.slice xA0 xn0 xc0] 42)) (.cells #[.slice yA0 yn0 yc0] 42)))) hb)
        clear hb cX0 cY0
        cases hn : eq x y with
        | false =>
          have HN := Aside.mk hn
          clear hn
          go_wp2
          go_ret
          exact ⟨by rw [I2.out, HS.out, HN.out]; rfl, HB.out⟩
        | true =>
          have HN := Aside.mk hn
          clear hn
          go_wp2
          go_roundg m
          case measure => omega
          case rel => exact ⟨k + 1, by go_num, ⟨by omega, by rw [I2.out, HS.out, HN.out]; rfl, HB.out⟩⟩
      · have hk2 : (xs.length : Int) ≤ (k : Int) := by omega
        have hk3 : xs.length ≤ k := by omega
        have HE2 := Aside.mk (show eqL eq xs ys = true by rw [I2.out, List.drop_eq_nil_of_le hk3, List.drop_eq_nil_of_le (by have := HL.out; omega)]; rfl)
        clear hk
        go_wp2
        go_ret
        exact ⟨by rw [HE2.out]; rfl, I3.out⟩
  · have q0 : ((xs.length : Int) != (ys.length : Int)) = true := by simp; omega
    have HE := Aside.mk (eqL_ne eq xs ys hl)
    clear hl
    go_enter Tryz.func40, Tryz.ntmps40
    go_wp2_with fail
    go_ret
    exact ⟨by rw [HE.out]; rfl, Below.refl _ _⟩
end Go.Proofs.YtjmpkbmgcbalkaaGreatDoor.EqFRdn
/- Contracts of functions of Go's library, as the kit's shelf proves them of whatever program, at this program's numbers. Each states its own conditions. -/
namespace Go.Proofs.YtjmpkbmgcbalkaaGreatDoor
open Go.Shelf
def Shelf.Ava_SlLaysH0n8_ren : Go.Shelf.Ren := ⟨fun | 6 => 62 | 8 => 36 | n => n, fun | 0 => 0 | 3 => 3 | 4 => 4 | 22 => 40 | 23 => 39 | 25 => 57 | n => n, fun  | n => n⟩
theorem Shelf.Ava_SlLaysH0n8 : Go.Proofs.SlLaysH0.n8 Tryz.prog Shelf.Ava_SlLaysH0n8_ren := {
  mixed := by kernel_rfl
  f6 := ⟨Tryz.f62.name, by decide, Tryz.func62.trans (congrArg some (by kernel_rfl))⟩
  f8 := ⟨Tryz.f36.name, by decide, Tryz.func36.trans (congrArg some (by kernel_rfl))⟩
  t0 := Tryz.underlying0
  a0 := Tryz.isAgg0
  z0 := Tryz.sizeOf0
  v0 := Tryz.zeroValue0
  t3 := Tryz.underlying3
  a3 := Tryz.isAgg3
  z3 := Tryz.sizeOf3
  v3 := Tryz.zeroValue3
  t4 := Tryz.underlying4
  a4 := Tryz.isAgg4
  z4 := Tryz.sizeOf4
  v4 := Tryz.zeroValue4
  t22 := Tryz.underlying40
  a22 := Tryz.isAgg40
  z22 := Tryz.sizeOf40
  v22 := Tryz.zeroValue40
  t25 := Tryz.underlying57
  a25 := Tryz.isAgg57
  z25 := Tryz.sizeOf57
  v25 := Tryz.zeroValue57 }
open Go.RowKit Go.Lib in
theorem Shelf.Ava_slices_ContainsFunc {α : Type} [Inhabited α] (k : Nat) (aE : ∀ w, (isAgg 39).run Tryz.prog w = .ok true w) (zE : ∀ w, (Go.sizeOf 39).run Tryz.prog w = .ok k w) (enc : α → List Value) (hk : ∀ x, (enc x).length = k) (p : α → Bool) (g : Nat) (lb : Array Value) (eg : ∀ args w, (callFunc g args).run Tryz.prog w = .ok (.enter g args) w) (b off n c : Nat) (zs : List α) (w : World) (hp : PredBelow Tryz.prog g lb (fun x => .agg (enc x).toArray) p w) (hz : n ≤ zs.length) (hbig : n ≤ 9223372036854775807) (hb : b < w.heap.size) (hc : ∀ j, j < zs.length → ∀ i v, (enc zs[j]!)[i]? = some v → w.cell? ⟨b, off + j * k + i, none⟩ = some v) :
    Calls Tryz.prog 36 #[.slice (some ⟨b, off, none⟩) n c, .func (.func g) #[] lb] w fun e w' => e = .returned (.bool ((zs.take n).any p)) ∧ Below w.heap.size w w' := AnyQ.slices_ContainsFunc Shelf.Ava_SlLaysH0n8  k aE zE enc hk p g lb eg b off n c zs w hp hz hbig hb hc
end Go.Proofs.YtjmpkbmgcbalkaaGreatDoor
/- Contracts of functions of Go's library, as the kit's shelf proves them of whatever program, at this program's numbers. Each states its own conditions. -/
namespace Go.Proofs.YtjmpkbmgcbalkaaGreatDoor
open Go.Shelf
def Shelf.Rdn_SlLaysH0n8_ren : Go.Shelf.Ren := ⟨fun | 6 => 63 | 8 => 39 | n => n, fun | 0 => 0 | 3 => 3 | 4 => 4 | 22 => 22 | 23 => 42 | 25 => 58 | n => n, fun  | n => n⟩
theorem Shelf.Rdn_SlLaysH0n8 : Go.Proofs.SlLaysH0.n8 Tryz.prog Shelf.Rdn_SlLaysH0n8_ren := {
  mixed := by kernel_rfl
  f6 := ⟨Tryz.f63.name, by decide, Tryz.func63.trans (congrArg some (by kernel_rfl))⟩
  f8 := ⟨Tryz.f39.name, by decide, Tryz.func39.trans (congrArg some (by kernel_rfl))⟩
  t0 := Tryz.underlying0
  a0 := Tryz.isAgg0
  z0 := Tryz.sizeOf0
  v0 := Tryz.zeroValue0
  t3 := Tryz.underlying3
  a3 := Tryz.isAgg3
  z3 := Tryz.sizeOf3
  v3 := Tryz.zeroValue3
  t4 := Tryz.underlying4
  a4 := Tryz.isAgg4
  z4 := Tryz.sizeOf4
  v4 := Tryz.zeroValue4
  t22 := Tryz.underlying22
  a22 := Tryz.isAgg22
  z22 := Tryz.sizeOf22
  v22 := Tryz.zeroValue22
  t25 := Tryz.underlying58
  a25 := Tryz.isAgg58
  z25 := Tryz.sizeOf58
  v25 := Tryz.zeroValue58 }
open Go.RowKit Go.Lib in
theorem Shelf.Rdn_slices_ContainsFunc {α : Type} [Inhabited α] (k : Nat) (aE : ∀ w, (isAgg 42).run Tryz.prog w = .ok true w) (zE : ∀ w, (Go.sizeOf 42).run Tryz.prog w = .ok k w) (enc : α → List Value) (hk : ∀ x, (enc x).length = k) (p : α → Bool) (g : Nat) (lb : Array Value) (eg : ∀ args w, (callFunc g args).run Tryz.prog w = .ok (.enter g args) w) (b off n c : Nat) (zs : List α) (w : World) (hp : PredBelow Tryz.prog g lb (fun x => .agg (enc x).toArray) p w) (hz : n ≤ zs.length) (hbig : n ≤ 9223372036854775807) (hb : b < w.heap.size) (hc : ∀ j, j < zs.length → ∀ i v, (enc zs[j]!)[i]? = some v → w.cell? ⟨b, off + j * k + i, none⟩ = some v) :
    Calls Tryz.prog 39 #[.slice (some ⟨b, off, none⟩) n c, .func (.func g) #[] lb] w fun e w' => e = .returned (.bool ((zs.take n).any p)) ∧ Below w.heap.size w w' := AnyQ.slices_ContainsFunc Shelf.Rdn_SlLaysH0n8  k aE zE enc hk p g lb eg b off n c zs w hp hz hbig hb hc
end Go.Proofs.YtjmpkbmgcbalkaaGreatDoor
/- dn: which names are right, the same, under each other (isAva, Right, isSame, Same, IsUnder). Conditions: the names read as they lie. -/
namespace Go.Proofs.YtjmpkbmgcbalkaaGreatDoor.Dn
open Go.RowKit Go.Shelf Go.Lib
set_option linter.unusedVariables false
abbrev Ava := ByteArray × ByteArray
abbrev Rdn := List Ava
abbrev Name := List Rdn
def VAva : View Ava := VCat VStr VStr
def VRdn : View Rdn := VSlice 2 VAva
def VName : View Name := VSlice 1 VRdn
theorem VAva.ok : VAva.Ok 2 := VCat.ok VStr.ok VStr.ok
theorem VRdn.ok : VRdn.Ok 1 := VSlice.ok VAva.ok
theorem VName.ok : VName.Ok 1 := VSlice.ok VRdn.ok
theorem VAva.cells {w : World} {av : Nat → Prop} {ws : List Value} {a : Ava} (h : VAva w av ws a) : ws = [.string a.1, .string a.2] := by
  obtain ⟨v1, v2, rfl, h1, h2⟩ := h
  have e1 : v1 = [.string a.1] := h1
  have e2 : v2 = [.string a.2] := h2
  rw [e1, e2]; rfl
theorem VAva.mk (w : World) (av : Nat → Prop) (a : Ava) : VAva w av [.string a.1, .string a.2] a := ⟨[.string a.1], [.string a.2], rfl, rfl, rfl⟩
def avaB (a : Ava) : Bool := typeB a.1.data.toList && decide (a.2.size ≤ 60)
def rdnB (r : Rdn) : Bool := decide (1 ≤ r.length) && (decide (r.length ≤ 3) && r.all avaB)
def rightB (d : Name) : Bool := decide (d.length ≤ 8) && d.all rdnB
theorem ava_calls (a : Ava) (w : World) (p : Nat → Addr) (hE : Env w p) : Calls Tryz.prog 38 #[.agg #[.string a.1, .string a.2]] w fun e w' => e = .returned (.bool (avaB a)) ∧ Below w.heap.size w w' := by
  obtain ⟨t, v⟩ := a
  dsimp only
  have HB0 := Aside.mk (below_new w (.cells #[.string t, .string v] 39))
  go_enter Tryz.func38, Tryz.ntmps38
  go_wp2_with fail
  refine (type_calls t _ p (hE.below HB0.out)).mono ?_
  rintro e w1 ⟨rfl, hb⟩
  have c1 : w1.cell? ⟨w.heap.size, 1, none⟩ = some (.string v) := cell_below (cell_new w _ _ _ 1 rfl) hb
  have HB1 := Aside.mk (below_then HB0.out hb)
  clear hb
  cases ht : typeB t.data.toList with
  | false =>
    have HT := Aside.mk ht
    clear ht
    go_wp2
    go_ret
    exact ⟨by rw [avaB, HT.out]; rfl, HB1.out⟩
  | true =>
    have HT := Aside.mk ht
    clear ht
    go_wp2
    go_ret
    exact ⟨by rw [avaB, HT.out]; simp; omega, HB1.out⟩
theorem notAva (a : Ava) (w : World) (p : Nat → Addr) (hE : Env w p) : Calls Tryz.prog 37 #[.agg #[.string a.1, .string a.2]] w fun e w' => e = .returned (.bool (!avaB a)) ∧ Below w.heap.size w w' := by
  have HB0 := Aside.mk (below_new w (.cells #[.string a.1, .string a.2] 39))
  go_enter Tryz.func37, Tryz.ntmps37
  go_wp2_with fail
  refine (ava_calls a _ p (hE.below HB0.out)).mono ?_
  rintro e w1 ⟨rfl, hb⟩
  have HB1 := Aside.mk (below_then HB0.out hb)
  clear hb
  go_wp2
  go_ret
  exact ⟨rfl, HB1.out⟩
/-- are some parts not right? -/
theorem some_ava (v : Value) (r : Rdn) (w : World) (p : Nat → Addr) (hE : Env w p) (hv : VRdn w (fun _ => True) [v] r) (hr : r.length ≤ 1000000000) :
    Calls Tryz.prog 36 #[v, .func (.func 37) #[] #[]] w fun e w' => e = .returned (.bool (r.any fun a => !avaB a)) ∧ Below w.heap.size w w' := by
  obtain ⟨A, c, rfl, hl, hx⟩ := VSlice.open hv
  by_cases hn : r = []
  · subst hn
    go_enter Tryz.func36, Tryz.ntmps36
    go_wp2
    refine wp_loop_rounds 1 ?_
    rw [rounds_succ]
    go_wp2
    go_ret
    exact ⟨rfl, Below.refl _ _⟩
  · obtain ⟨b, o, rfl, _, hb, hc⟩ := hx hn
    have h := Shelf.Ava_slices_ContainsFunc 2 Tryz.isAgg39 Tryz.sizeOf39 (fun a : Ava => [.string a.1, .string a.2]) (fun _ => rfl) (fun a => !avaB a) 37 #[] (enters_of Tryz.func37 (by kernel_rfl) rfl) b o r.length c r w
      (fun W x hbw => (notAva x W p (hE.below hbw)).mono fun e w' h => ⟨h.1, hbw.trans (h.2.mono hbw.size)⟩) (Nat.le_refl _) (by omega) hb (fun j hj i v hv => by
        obtain ⟨ws, h1, h2⟩ := hc j r[j] (List.getElem?_eq_getElem hj)
        rw [h1.cells] at h2
        rw [getElem!_pos r j hj] at hv
        rw [Nat.add_assoc]
        exact h2 i v hv)
    rw [List.take_length] at h
    exact h
theorem notRdn (v : Value) (r : Rdn) (w : World) (p : Nat → Addr) (hE : Env w p) (hv : VRdn w (fun _ => True) [v] r) : Calls Tryz.prog 35 #[.agg #[v]] w fun e w' => e = .returned (.bool (!rdnB r)) ∧ Below w.heap.size w w' := by
  have hV2 := Aside.mk (VRdn.ok.below hv (below_new w (.cells #[v] 42)))
  obtain ⟨A, c, rfl, hl, hx⟩ := VSlice.open hv
  clear hx hv
  have HB0 := Aside.mk (below_new w (.cells #[.slice A r.length c] 42))
  rcases (by omega : (r.length < 1 ∧ (r.length : Int) < 1) ∨ (3 < r.length ∧ (3 : Int) < (r.length : Int) ∧ (1 : Int) ≤ (r.length : Int)) ∨ (1 ≤ r.length ∧ r.length ≤ 3 ∧ (r.length : Int) ≤ 3 ∧ (1 : Int) ≤ (r.length : Int))) with ⟨h1, h2⟩ | ⟨h1, h2, h3⟩ | ⟨h1, h2, h3, h4⟩
  · have HT := Aside.mk (show rdnB r = false by unfold rdnB; rw [decide_eq_false (by omega)]; rfl)
    clear h1
    go_enter Tryz.func35, Tryz.ntmps35
    go_wp2_with fail
    go_ret
    exact ⟨by rw [HT.out]; rfl, HB0.out⟩
  · have HT := Aside.mk (show rdnB r = false by unfold rdnB; rw [decide_eq_false (p := r.length ≤ 3) (by omega), Bool.false_and, Bool.and_false])
    clear h1
    go_enter Tryz.func35, Tryz.ntmps35
    go_wp2_with fail
    go_ret
    exact ⟨by rw [HT.out]; rfl, HB0.out⟩
  · have HT := Aside.mk (show rdnB r = r.all avaB by unfold rdnB; rw [decide_eq_true h1, decide_eq_true h2]; rfl)
    have HA := Aside.mk (show (r.any fun a => !avaB a) = !(r.all avaB) by rw [List.not_all_eq_any_not])
    have hr : r.length ≤ 1000000000 := by omega
    clear h1 h2
    go_enter Tryz.func35, Tryz.ntmps35
    go_wp2_with fail
    refine (some_ava _ r _ p (hE.below HB0.out) hV2.out hr).mono ?_
    rintro e w1 ⟨rfl, hb⟩
    have HB1 := Aside.mk (below_then HB0.out hb)
    clear hb
    go_wp2
    go_ret
    exact ⟨by rw [HT.out, ← HA.out]; rfl, HB1.out⟩
theorem VRdn.cells {w : World} {av : Nat → Prop} {ws : List Value} {r : Rdn} (h : VRdn w av ws r) : ∃ A n c, ws = [.slice A n c] := by
  obtain ⟨A, c, e, _⟩ := h
  exact ⟨_, _, _, e⟩
/-- are some parts of a name not right? -/
theorem some_rdn (v : Value) (d : Name) (w : World) (p : Nat → Addr) (hE : Env w p) (hv : VName w (fun _ => True) [v] d) (hr : d.length ≤ 1000000000) :
    Calls Tryz.prog 39 #[v, .func (.func 35) #[] #[]] w fun e w' => e = .returned (.bool (d.any fun a => !rdnB a)) ∧ Below w.heap.size w w' := by
  obtain ⟨A, c, rfl, hl, hx⟩ := VSlice.open hv
  by_cases hn : d = []
  · subst hn
    go_enter Tryz.func39, Tryz.ntmps39
    go_wp2
    refine wp_loop_rounds 1 ?_
    rw [rounds_succ]
    go_wp2
    go_ret
    exact ⟨rfl, Below.refl _ _⟩
  · obtain ⟨b, o, rfl, _, hb, hc⟩ := hx hn
    have hc' : ∀ j : Fin d.length, ∃ v, VRdn w (fun _ => True) [v] d[j] ∧ w.cell? ⟨b, o + j.1, none⟩ = some v := fun j => by
      obtain ⟨ws, h1, h2⟩ := hc j d[j] (List.getElem?_eq_getElem j.2)
      obtain ⟨A, n, c, rfl⟩ := h1.cells
      exact ⟨_, h1, by have := h2 0 _ rfl; simpa using this⟩
    let zs : List { x : Value × Rdn // VRdn w (fun _ => True) [x.1] x.2 } := List.ofFn fun j => ⟨((hc' j).choose, d[j]), (hc' j).choose_spec.1⟩
    have hzl : zs.length = d.length := by simp [zs]
    have hpos : 0 < d.length := List.length_pos_iff.2 hn
    have hinh : Inhabited { x : Value × Rdn // VRdn w (fun _ => True) [x.1] x.2 } := ⟨zs[0]'(by omega)⟩
    have h := Shelf.Rdn_slices_ContainsFunc 1 Tryz.isAgg42 Tryz.sizeOf42 (fun a : { x : Value × Rdn // VRdn w (fun _ => True) [x.1] x.2 } => [a.1.1]) (fun _ => rfl) (fun a => !rdnB a.1.2) 35 #[] (enters_of Tryz.func35 (by kernel_rfl) rfl) b o d.length c zs w
      (fun W x hbw => (notRdn x.1.1 x.1.2 W p (hE.below hbw) (VRdn.ok.below x.2 hbw)).mono fun e w' h => ⟨h.1, hbw.trans (h.2.mono hbw.size)⟩) (by omega) (by omega) hb (fun j hj i v hv => by
        rw [getElem!_pos zs j hj] at hv
        have hjd : j < d.length := by omega
        have hi : i = 0 := by
          have := (List.getElem?_eq_some_iff.1 hv).1
          simpa using this
        subst hi
        have h2 := (hc' ⟨j, hjd⟩).choose_spec.2
        have : zs[j] = ⟨((hc' ⟨j, hjd⟩).choose, d[j]), (hc' ⟨j, hjd⟩).choose_spec.1⟩ := by simp [zs]
        rw [this] at hv
        cases hv
        simpa using h2)
    have hmap : zs.map (·.1.2) = d := by
      refine List.ext_getElem (by simp [hzl]) fun j h1 h2 => ?_
      simp [zs]
    have hany : (zs.take d.length).any (fun a => !rdnB a.1.2) = d.any fun a => !rdnB a := by
      rw [List.take_of_length_le (by omega)]
      conv => rhs; rw [← hmap]
      rw [List.any_map]; rfl
    rw [hany] at h
    exact h
theorem right_calls (v : Value) (d : Name) (w : World) (p : Nat → Addr) (hE : Env w p) (hv : VName w (fun _ => True) [v] d) : Calls Tryz.prog 19 #[v] w fun e w' => e = .returned (.bool (rightB d)) ∧ Below w.heap.size w w' := by
  have hV := Aside.mk hv
  obtain ⟨A, c, rfl, hl, hx⟩ := VSlice.open hv
  clear hx hv
  by_cases h8 : d.length ≤ 8
  · have h8i : (d.length : Int) ≤ 8 := by omega
    have HT := Aside.mk (show rightB d = d.all rdnB by unfold rightB; rw [decide_eq_true h8]; rfl)
    have HA := Aside.mk (show (d.any fun a => !rdnB a) = !(d.all rdnB) by rw [List.not_all_eq_any_not])
    go_enter Tryz.func19, Tryz.ntmps19
    go_wp2_with fail
    refine (some_rdn _ d _ p hE hV.out (by omega)).mono ?_
    rintro e w1 ⟨rfl, hb⟩
    have HB1 := Aside.mk hb
    clear hb
    go_wp2
    go_ret
    exact ⟨by rw [HT.out, HA.out]; simp, HB1.out⟩
  · have h8i : (8 : Int) < (d.length : Int) := by omega
    have HT := Aside.mk (show rightB d = false by unfold rightB; rw [decide_eq_false h8]; rfl)
    clear h8
    go_enter Tryz.func19, Tryz.ntmps19
    go_wp2_with fail
    go_ret
    exact ⟨by rw [HT.out]; rfl, Below.refl _ _⟩
end Go.Proofs.YtjmpkbmgcbalkaaGreatDoor.Dn
/- The built-in max and min of two ints, as laws for the walk, their result named. No conditions. -/
namespace Go.Proofs.YtjmpkbmgcbalkaaGreatDoor
open Go.RowKit
set_option linter.unusedVariables false
theorem wpList_max2 {P : Program} {ops : Array Oper} {rest : List Oper} {a : Act} {w : World} {Q : Exit → Act → World → Prop} {d : Option Tmp} {s x : Operand} {ats : Array TypeId} {ty : TypeId} {ps : String} {af : Array Edge} {m n r : Int}
    (hs : a.eval s = .int .i64 m) (hx : a.eval x = .int .i64 n) (hr : r = max m n) (h : wpList P ops Q rest (a.put d (.int .i64 r)) w) :
    wpList P ops Q ({ dst := d, op := .call { callee := .builtin .max, args := #[s, x], argTypes := ats }, type := ty, pos := ps, after := af, guard := none } :: rest) a w := by
  refine wpList_plain rfl fun K hK => ?_
  have e : (if n > m then n else m) = r := by rw [hr]; split <;> omega
  unfold Oper.wp
  simp [execOp, resolve, invoke, builtin, hs, hx, Builtin.max_, Builtin.max2]
  simp only [gt_iff_lt] at e
  rw [e]
  exact hK _ _ h
theorem wpList_min2 {P : Program} {ops : Array Oper} {rest : List Oper} {a : Act} {w : World} {Q : Exit → Act → World → Prop} {d : Option Tmp} {s x : Operand} {ats : Array TypeId} {ty : TypeId} {ps : String} {af : Array Edge} {m n r : Int}
    (hs : a.eval s = .int .i64 m) (hx : a.eval x = .int .i64 n) (hr : r = min m n) (h : wpList P ops Q rest (a.put d (.int .i64 r)) w) :
    wpList P ops Q ({ dst := d, op := .call { callee := .builtin .min, args := #[s, x], argTypes := ats }, type := ty, pos := ps, after := af, guard := none } :: rest) a w := by
  refine wpList_plain rfl fun K hK => ?_
  have e : (if n < m then n else m) = r := by rw [hr]; split <;> omega
  unfold Oper.wp
  simp [execOp, resolve, invoke, builtin, hs, hx, Builtin.min_, Builtin.min2]
  rw [e]
  exact hK _ _ h
/-- a text's piece, its ends named -/
theorem wpList_piece {P : Program} {ops : Array Oper} {rest : List Oper} {a : Act} {w : World} {Q : Exit → Act → World → Prop} {d : Option Tmp} {s lo hi : Operand} {t ty : TypeId} {ps : String} {af : Array Edge} {x : ByteArray} {i j : Nat} {m n : Int} (hu : P.underlying t = some .string)
    (hs : a.eval s = .string x) (hl : a.eval lo = .int .i64 m) (hh : a.eval hi = .int .i64 n) (hm : m = i) (hn : n = j) (hij : i ≤ j) (hj : j ≤ x.size) (h : wpList P ops Q rest (a.put d (.string (x.extract i j))) w) :
    wpList P ops Q ({ dst := d, op := .slice t s (some lo) (some hi) none, type := ty, pos := ps, after := af, guard := none } :: rest) a w := by
  refine wpList_plain rfl fun K hK => ?_
  subst hm hn
  have e := run_slice_string (P := P) w t x .i64 .i64 (i : Int) (j : Int) hu (by omega) (by omega) (by omega)
  rw [Int.toNat_natCast, Int.toNat_natCast] at e
  unfold Oper.wp
  simp [execOp, hs, hl, hh, run_sliceAt_string w t _ _ _ _ hu, e, Result.andThen]
  exact hK _ _ h
theorem wpList_tail {P : Program} {ops : Array Oper} {rest : List Oper} {a : Act} {w : World} {Q : Exit → Act → World → Prop} {d : Option Tmp} {s lo : Operand} {t ty : TypeId} {ps : String} {af : Array Edge} {x : ByteArray} {i : Nat} {m : Int} (hu : P.underlying t = some .string)
    (hs : a.eval s = .string x) (hl : a.eval lo = .int .i64 m) (hm : m = i) (hi : i ≤ x.size) (h : wpList P ops Q rest (a.put d (.string (x.extract i x.size))) w) :
    wpList P ops Q ({ dst := d, op := .slice t s (some lo) none none, type := ty, pos := ps, after := af, guard := none } :: rest) a w := by
  refine wpList_plain rfl fun K hK => ?_
  subst hm
  have e := run_slice_string_l (P := P) w t x hu .i64 (i : Int) (by omega) (by omega)
  rw [Int.toNat_natCast] at e
  unfold Oper.wp
  simp [execOp, hs, hl, run_sliceAt_string w t _ _ _ _ hu, e, Result.andThen]
  exact hK _ _ h
end Go.Proofs.YtjmpkbmgcbalkaaGreatDoor
/- dn: which names are the same, and under each other (isSame, Same, IsUnder). Conditions: the names read as they lie. -/
namespace Go.Proofs.YtjmpkbmgcbalkaaGreatDoor.Dn
open Go.RowKit Go.Shelf Go.Lib
set_option linter.unusedVariables false
theorem neq_ava (a b : Ava) (w : World) : (binOp .neq 39 (.agg #[.string a.1, .string a.2]) (.agg #[.string b.1, .string b.2])).run Tryz.prog w = .ok (.bool (!decide (a = b))) w := by
  obtain ⟨a1, a2⟩ := a
  obtain ⟨b1, b2⟩ := b
  have e1 : (a1.toList = b1.toList) = (a1 = b1) := by rw [ByteArray.toList_eq, ByteArray.toList_eq]; exact propext ⟨fun h => by rw [← Txt.mk_list a1, h, Txt.mk_list], fun h => by rw [h]⟩
  have e2 : (a2.toList = b2.toList) = (a2 = b2) := by rw [ByteArray.toList_eq, ByteArray.toList_eq]; exact propext ⟨fun h => by rw [← Txt.mk_list a2, h, Txt.mk_list], fun h => by rw [h]⟩
  by_cases h1 : a1 = b1 <;> by_cases h2 : a2 = b2
  all_goals
    simp only [Prod.mk.injEq, h1, h2, and_self, and_true, and_false, decide_true, decide_false, Bool.not_true, Bool.not_false]
    go_simp
set_option maxRecDepth 100000 in
theorem rdnSame_calls (v v' : Value) (r r' : Rdn) (w : World) (hv : VRdn w (fun _ => True) [v] r) (hv' : VRdn w (fun _ => True) [v'] r') (hr : r.length ≤ 1000000000) :
    Calls Tryz.prog 41 #[.agg #[v], .agg #[v']] w fun e w' => e = .returned (.bool (decide (r = r'))) ∧ Below w.heap.size w w' := by
  obtain ⟨A, c, rfl, _, hx⟩ := VSlice.open hv
  obtain ⟨A', c', rfl, _, hy⟩ := VSlice.open hv'
  have HX := Aside.mk hx
  have HY := Aside.mk hy
  clear hx hy hv hv'
  have HB0 := Aside.mk (below_then (below_new w (.cells #[.slice A r.length c] 42)) (below_new (w.alloc (.cells #[.slice A r.length c] 42)) (.cells #[.slice A' r'.length c'] 42)))
  go_enter Tryz.func41, Tryz.ntmps41
  go_wp2_with fail
  go_loopg [13] (min r.length r'.length) (fun gk v13 wr => ∃ (k : Nat), v13 = .int .i64 k ∧ Aside (k + gk = min r.length r'.length ∧ r.take k = r'.take k ∧ Below w.heap.size w wr ∧ wr.heap[w.heap.size]? = some (.cells #[.slice A r.length c] 42 (0, 0)) ∧ wr.heap[w.heap.size + 1]? = some (.cells #[.slice A' r'.length c'] 42 (0, 0))))
  case atStart => exact ⟨0, rfl, ⟨by omega, rfl, HB0.out, blk_below (World.alloc_heap_new w _) (below_new _ _), by have := World.alloc_heap_new (w.alloc (.cells #[.slice A r.length c] 42)) (.cells #[.slice A' r'.length c'] 42); simpa using this⟩⟩
  case round =>
    obtain ⟨k, rfl, HI⟩ := hrel
    obtain ⟨i1, i2, i3, i4, i5⟩ := HI.out
    clear HI
    have I2 := Aside.mk i2
    have I3 := Aside.mk i3
    have d0 := cel i4 0 rfl
    have d1 := cel i5 0 rfl
    have I4 := Aside.mk i4
    have I5 := Aside.mk i5
    clear i2 i3 i4 i5
    by_cases hk : k < min r.length r'.length
    · obtain ⟨m, rfl⟩ : ∃ m, gk = m + 1 := ⟨gk - 1, by omega⟩
      have hki : (k : Int) < min (r.length : Int) (r'.length : Int) := by omega
      have hkX : k < r.length := by omega
      have hkY : k < r'.length := by omega
      have hkx : (k : Int) < (r.length : Int) := by omega
      have hky : (k : Int) < (r'.length : Int) := by omega
      obtain ⟨bX, oX, rfl, _, hbX, hcX⟩ := HX.out (by rintro rfl; simp at hkX)
      obtain ⟨bY, oY, rfl, _, hbY, hcY⟩ := HY.out (by rintro rfl; simp at hkY)
      obtain ⟨wsX, eX, fX⟩ := hcX k _ (List.getElem?_eq_getElem hkX)
      obtain ⟨wsY, eY, fY⟩ := hcY k _ (List.getElem?_eq_getElem hkY)
      rw [eX.cells] at fX
      rw [eY.cells] at fY
      have x0 : wr.cell? ⟨bX, oX + k * 2, none⟩ = some (.string r[k].1) := cell_below (fX 0 _ rfl) I3.out
      have x1 : wr.cell? ⟨bX, oX + k * 2 + 1, none⟩ = some (.string r[k].2) := cell_below (fX 1 _ rfl) I3.out
      have y0 : wr.cell? ⟨bY, oY + k * 2, none⟩ = some (.string r'[k].1) := cell_below (fY 0 _ rfl) I3.out
      have y1 : wr.cell? ⟨bY, oY + k * 2 + 1, none⟩ = some (.string r'[k].2) := cell_below (fY 1 _ rfl) I3.out
      have HS := Aside.mk (And.intro (List.take_succ_eq_append_getElem hkX) (List.take_succ_eq_append_getElem hkY))
      have HQ := Aside.mk (fun W => neq_ava r[k] r'[k] W)
      have HNe := Aside.mk (show r[k] ≠ r'[k] → r ≠ r' by rintro h rfl; exact h rfl)
      generalize r[k] = x at x0 x1 HS HQ HNe
      generalize r'[k] = y at y0 y1 HS HQ HNe
      clear eX eY fX fY hcX hcY hk
      by_cases hxy : x = y
      · have hq := HQ.out
        rw [decide_eq_true hxy] at hq
        have HXY := Aside.mk hxy
        clear hxy
        go_wp2_with fail
        go_quiet (fail)
        go_wp2
        go_roundg m
        case measure => omega
        case rel => exact ⟨k + 1, by go_num, ⟨by omega, by rw [HS.out.1, HS.out.2, I2.out, HXY.out], below_then I3.out (below_drewN _ _), I4.out, I5.out⟩⟩
      · have hq := HQ.out
        rw [decide_eq_false hxy] at hq
        have HXY := Aside.mk (HNe.out hxy)
        clear hxy
        go_wp2_with fail
        go_quiet (fail)
        go_wp2
        go_ret
        exact ⟨by rw [decide_eq_false HXY.out]; rfl, below_then I3.out (below_drewN _ _)⟩
    · have hki : min (r.length : Int) (r'.length : Int) ≤ (k : Int) := by omega
      have HK := Aside.mk hk
      have HE := Aside.mk (show decide (r = r') = decide (r.length = r'.length) by
        rw [decide_eq_decide]
        constructor
        · rintro rfl; rfl
        · intro h
          have h2 := I2.out
          rwa [List.take_of_length_le (by omega), List.take_of_length_le (by omega)] at h2)
      clear hk
      go_wp2
      go_ret
      refine ⟨?_, I3.out⟩
      rw [HE.out]
      exact congrArg (fun b => Ending.returned (Value.bool b)) (by rw [Bool.eq_iff_iff]; simp; omega)
/-- names whose lists are within bounds -/
def NameOk (d : Name) : Prop := d.length ≤ 1000000000 ∧ ∀ r ∈ d, r.length ≤ 1000000000
theorem same_calls (v v' : Value) (d d' : Name) (w : World) (hv : VName w (fun _ => True) [v] d) (hv' : VName w (fun _ => True) [v'] d') (hd : NameOk d) :
    Calls Tryz.prog 21 #[v, v'] w fun e w' => e = .returned (.bool (decide (d = d'))) ∧ Below w.heap.size w w' := by
  have HH : Aside (Calls Tryz.prog 40 #[v, v', .func (.func 41) #[] #[]] w fun e w' => e = .returned (.bool (eqL (fun x y : Rdn => decide (x = y)) d d')) ∧ Below w.heap.size w w') :=
    ⟨EqFRdn.equal_calls VRdn.ok (fun h => h.cells) (fun x y : Rdn => decide (x = y)) 41 (enters_of Tryz.func41 (by kernel_rfl) rfl) v v' d d' w hv hv' (fun W vx vy x y hx hb h1 h2 => by
      obtain ⟨A, n, c, rfl⟩ := h1.cells
      obtain ⟨A', n', c', rfl⟩ := h2.cells
      exact rdnSame_calls _ _ x y W h1 h2 (hd.2 x hx)) hd.1⟩
  have HE := Aside.mk (show eqL (fun x y : Rdn => decide (x = y)) d d' = decide (d = d') by rw [Bool.eq_iff_iff, eqL_iff _ _ (fun x _ y => by simp)]; simp)
  clear hv hv'
  go_enter Tryz.func21, Tryz.ntmps21
  go_wp2_with fail
  refine HH.out.mono ?_
  rintro e w1 ⟨rfl, hb⟩
  have HB := Aside.mk hb
  clear hb
  go_wp2
  go_ret
  exact ⟨by rw [← HE.out]; rfl, HB.out⟩
/-- is a name under another one? -/
def underB (d b : Name) : Bool := decide (b.length ≤ d.length) && decide (d.drop (d.length - b.length) = b)
theorem under_calls (v v' : Value) (d b : Name) (w : World) (hv : VName w (fun _ => True) [v] d) (hv' : VName w (fun _ => True) [v'] b) (hd : NameOk d) (hb : b.length ≤ 1000000000) :
    Calls Tryz.prog 23 #[v, v'] w fun e w' => e = .returned (.bool (underB d b)) ∧ Below w.heap.size w w' := by
  have hV := hv
  obtain ⟨A, c, rfl, hlc, hx⟩ := VSlice.open hv
  obtain ⟨A', c', rfl, _, _⟩ := VSlice.open hv'
  have hd1 := hd.1
  have hd2 := hd.2
  have HD := Aside.mk hd2
  have HV' := Aside.mk hv'
  clear hd hd2
  by_cases hl : b.length ≤ d.length
  · have hli : (b.length : Int) ≤ (d.length : Int) := by omega
    have HU := Aside.mk (show underB d b = decide (d.drop (d.length - b.length) = b) by unfold underB; rw [decide_eq_true hl]; rfl)
    have HDO := Aside.mk (show NameOk (d.drop (d.length - b.length)) from ⟨by rw [List.length_drop]; omega, fun r hr => HD.out r (List.mem_of_mem_drop hr)⟩)
    have HV1 := Aside.mk (fun hc => VSlice.from_end hV (d.length - b.length) (by omega) hc)
    have HV2 := Aside.mk (VSlice.from hV (d.length - b.length) (by omega))
    rw [Nat.mul_one] at HV2
    clear hv' hV hv hx
    go_enter Tryz.func23, Tryz.ntmps23
    go_wp2_with fail
    case inl =>
      refine (same_calls _ _ _ b w (HV1.out (by assumption)) HV'.out HDO.out).mono ?_
      rintro e w1 ⟨rfl, hb⟩
      have HB := Aside.mk hb
      clear hb
      go_wp2
      go_ret
      exact ⟨by rw [HU.out]; rfl, HB.out⟩
    case inr =>
      refine (same_calls _ _ _ b w HV2.out HV'.out HDO.out).mono ?_
      rintro e w1 ⟨rfl, hb⟩
      have HB := Aside.mk hb
      clear hb
      go_wp2
      go_ret
      exact ⟨by rw [HU.out]; rfl, HB.out⟩
  · have hli : (d.length : Int) < (b.length : Int) := by omega
    have HU := Aside.mk (show underB d b = false by unfold underB; rw [decide_eq_false hl]; rfl)
    clear hl hx hV hv hv'
    go_enter Tryz.func23, Tryz.ntmps23
    go_wp2_with fail
    go_ret
    exact ⟨by rw [HU.out]; rfl, Below.refl _ _⟩
end Go.Proofs.YtjmpkbmgcbalkaaGreatDoor.Dn
/- dn: a text's next sign (end). Conditions: at most 10^9 bytes; the sign is no backslash. -/
namespace Go.Proofs.YtjmpkbmgcbalkaaGreatDoor.Dn
open Go.RowKit
set_option linter.unusedVariables false
/-- how many bytes stand ahead of the next sign, but behind a backslash -/
def endL (c : UInt8) : List UInt8 → Nat
  | [] => 0
  | [b] => if b = 92 then 1 else if b = c then 0 else 1
  | b :: x :: t => if b = 92 then 2 + endL c t else if b = c then 0 else 1 + endL c (x :: t)
theorem endL_esc (c x : UInt8) (t : List UInt8) : endL c (92 :: x :: t) = 2 + endL c t := by rw [endL, if_pos rfl]
theorem endL_esc_end (c : UInt8) : endL c [92] = 1 := by rw [endL, if_pos rfl]
theorem endL_hit (c : UInt8) (hc : c ≠ 92) (t : List UInt8) : endL c (c :: t) = 0 := by
  cases t with
  | nil => rw [endL, if_neg hc, if_pos rfl]
  | cons x t => rw [endL, if_neg hc, if_pos rfl]
theorem endL_other (c b : UInt8) (h1 : b ≠ 92) (h2 : b ≠ c) (t : List UInt8) : endL c (b :: t) = 1 + endL c t := by
  cases t with
  | nil => simp [endL, h1, h2]
  | cons x t => rw [endL, if_neg h1, if_neg h2]
theorem endL_le (c : UInt8) : ∀ l : List UInt8, endL c l ≤ l.length
  | [] => Nat.le_refl _
  | [b] => by rw [endL]; split <;> (try split) <;> simp
  | b :: x :: t => by
    have h1 := endL_le c t
    have h2 := endL_le c (x :: t)
    rw [endL]
    simp only [List.length_cons] at h2 ⊢
    split
    · omega
    · split <;> omega
set_option maxHeartbeats 4000000 in
theorem end_calls (s : ByteArray) (hs : s.size ≤ 1000000000) (a : Nat) (ha : a ≤ s.size) (c : UInt8) (hc : c ≠ 92) (w : World) :
    Calls Tryz.prog 82 #[.agg #[.string s], .int .i64 a, .int .u8 c.toNat] w fun e w' => e = .returned (.int .i64 ((a + endL c (s.data.toList.drop a) : Nat) : Int)) ∧ Below w.heap.size w w' := by
  obtain ⟨N, hN⟩ : ∃ N, a + endL c (s.data.toList.drop a) = N := ⟨_, rfl⟩
  rw [hN]
  have HN := Aside.mk hN
  have HSL := Aside.mk (Txt.size_list s)
  obtain ⟨W1, hW1⟩ : ∃ W1, w.alloc (.cells #[.string s] 78) = W1 := ⟨_, rfl⟩
  have c0 : W1.cell? ⟨w.heap.size, 0, none⟩ = some (.string s) := by rw [← hW1]; exact cell_new w _ _ _ 0 rfl
  have HB := Aside.mk (show Below w.heap.size w W1 by rw [← hW1]; exact below_new _ _)
  clear hN
  go_enter Tryz.func82, Tryz.ntmps82
  go_wp2_with fail
  clear hW1
  go_loopg [7] (s.size + 1) (fun gk v7 wr => ∃ (i : Nat), v7 = .int .i64 i ∧ wr = W1 ∧ Aside (s.size + 1 ≤ i + gk ∧ a ≤ i ∧ ((i ≤ s.size ∧ i + endL c (s.data.toList.drop i) = N) ∨ (i = s.size + 1 ∧ N = s.size))))
  case atStart => exact ⟨a, rfl, rfl, ⟨by omega, Nat.le_refl _, .inl ⟨ha, HN.out⟩⟩⟩
  case round =>
    obtain ⟨i, rfl, rfl, HI⟩ := hrel
    obtain ⟨i1, i2, i3⟩ := HI.out
    clear HI
    by_cases hi : i < s.size
    · obtain ⟨m, rfl⟩ : ∃ m, gk = m + 1 := ⟨gk - 1, by omega⟩
      have hii : (i : Int) < (s.size : Int) := by omega
      have hi0 : (0 : Int) ≤ (i : Int) := by omega
      have hin : i + endL c (s.data.toList.drop i) = N := by
        rcases i3 with ⟨_, h⟩ | ⟨h, _⟩
        · exact h
        · omega
      clear i3
      rw [Txt.drop_cons s i hi] at hin
      have hidx : ∀ W : World, (Instr.index 9 (.string s) (.int .i64 (i : Int))).run Tryz.prog W = .ok (.int .u8 s[i].toNat) W := by
        intro W; go_simp
      generalize s[i] = b at hin hidx
      by_cases h92 : b = 92
      · subst h92
        have HX := Aside.mk (show (i + 1 + 1 ≤ s.size ∧ (i + 1 + 1) + endL c (s.data.toList.drop (i + 1 + 1)) = N) ∨ (i + 1 + 1 = s.size + 1 ∧ N = s.size) by
          by_cases hl : i + 1 < s.size
          · rw [Txt.drop_cons s (i + 1) hl, endL_esc] at hin
            exact .inl ⟨by omega, by omega⟩
          · rw [List.drop_eq_nil_of_le (by rw [HSL.out]; omega), endL_esc_end] at hin
            exact .inr ⟨by omega, by omega⟩)
        clear hin
        go_wp2
        go_roundg m
        case measure => omega
        case rel => exact ⟨i + 1 + 1, by go_num, rfl, ⟨by omega, by omega, HX.out⟩⟩
      · have hb92 : ((b.toNat : Int) == 92) = false := by
          rw [beq_eq_false_iff_ne]
          intro h; apply h92
          rw [← UInt8.toNat_inj]
          have : (92 : UInt8).toNat = 92 := rfl
          omega
        by_cases hbc : b = c
        · subst hbc
          have HX := Aside.mk (show i = N by rw [endL_hit _ h92] at hin; exact hin)
          clear hin h92
          go_wp2
          go_ret
          exact ⟨by rw [← HX.out]; rfl, HB.out⟩
        · have hbc2 : ((b.toNat : Int) == (c.toNat : Int)) = false := by
            rw [beq_eq_false_iff_ne]
            intro h; apply hbc
            rw [← UInt8.toNat_inj]
            omega
          have HX := Aside.mk (show (i + 1) + endL c (s.data.toList.drop (i + 1)) = N by rw [endL_other c b h92 hbc] at hin; omega)
          clear hin h92 hbc
          go_wp2
          go_roundg m
          case measure => omega
          case rel => exact ⟨i + 1, by go_num, rfl, ⟨by omega, by omega, .inl ⟨by omega, HX.out⟩⟩⟩
    · have hi2 : (s.size : Int) ≤ (i : Int) := by omega
      have HX := Aside.mk (show s.size = N by
        rcases i3 with ⟨h1, h2⟩ | ⟨h1, h2⟩
        · rw [List.drop_eq_nil_of_le (by rw [HSL.out]; omega), endL] at h2
          omega
        · exact h2.symm)
      clear hi i3
      go_wp2
      go_ret
      exact ⟨by rw [← HX.out]; rfl, HB.out⟩
end Go.Proofs.YtjmpkbmgcbalkaaGreatDoor.Dn
/- dn: the walk over a text's pieces. Conditions: at most 10^9 bytes; the sign is no backslash. -/
namespace Go.Proofs.YtjmpkbmgcbalkaaGreatDoor.Dn
open Go.RowKit
set_option linter.unusedVariables false
def piecesF (c : UInt8) : Nat → List UInt8 → List (List UInt8)
  | 0, l => [l]
  | f + 1, l => if endL c l = l.length then [l] else l.take (endL c l) :: piecesF c f (l.drop (endL c l + 1))
/-- a text's pieces -/
def piecesL (c : UInt8) (l : List UInt8) : List (List UInt8) := piecesF c (l.length + 1) l
theorem pieces_maker (s : ByteArray) (c : UInt8) (w : World) :
    Calls Tryz.prog 59 #[.agg #[.string s, .int .u8 c.toNat]] w fun e w' => e = .returned (.func (.func 81) #[] #[.pointer (some ⟨w.heap.size, 0, none⟩)]) ∧ w.alloc (.cells #[.string s, .int .u8 c.toNat] 80) = w' := by
  go_enter Tryz.func59, Tryz.ntmps59
  go_wp2
  go_ret
  exact ⟨rfl, rfl⟩
attribute [local go_sem] Oper.semAt_some
set_option maxHeartbeats 4000000 in
theorem pieces_iter {l0 Cx Co : Nat} {s : ByteArray} {c : UInt8} (hs : s.size ≤ 100000000) (hc : c ≠ 92) (J : List (List UInt8) → World → Prop) (Stop : World → Prop)
    (hJx : ∀ pre W, J pre W → W.cell? ⟨Cx, Co, none⟩ = some (.string s) ∧ W.cell? ⟨Cx, Co + 1, none⟩ = some (.int .u8 c.toNat)) (hJb : ∀ pre W W', J pre W → Below W.heap.size W W' → J pre W')
    (hY : ∀ pre (y : ByteArray) rest W, piecesL c s.data.toList = pre ++ y.data.toList :: rest → y.size ≤ s.size → J pre W → ∃ fn tmps assign body, (Instr.yield l0 #[.string y]).run Tryz.prog W = .ok (.round l0 fn tmps assign body) W ∧ RoundIn Fence.wide 0 Tryz.prog l0 fn tmps assign body W (fun e W' => (e = .returned (.bool true) ∧ J (pre ++ [y.data.toList]) W') ∨ (e = .returned (.bool false) ∧ Stop W')))
    (W : World) (h0 : J [] W) :
    Calls Tryz.prog 81 #[.func (.yield l0) #[] #[], .pointer (some ⟨Cx, Co, none⟩)] W fun e W' => (∃ v, e = .returned v) ∧ (J (piecesL c s.data.toList) W' ∨ Stop W') := by
  have HSL := Aside.mk (Txt.size_list s)
  go_enter Tryz.func81, Tryz.ntmps81
  go_wp2
  go_step3
  go_wp2
  go_step3
  go_wp2
  go_loopg [3] (s.size + 1) (fun gk v3 wr => ∃ a : Nat, v3 = .int .i64 a ∧ Aside (∃ pre, a ≤ s.size ∧ s.size + 1 ≤ a + gk ∧ J pre wr ∧ piecesL c s.data.toList = pre ++ piecesF c gk (s.data.toList.drop a)))
  case atStart => exact ⟨0, rfl, ⟨[], by omega, by omega, h0, by unfold piecesL; rw [HSL.out]; rfl⟩⟩
  case round =>
    obtain ⟨a, rfl, HI⟩ := hrel
    obtain ⟨pre, i1, i2, i3, i4⟩ := HI.out
    clear HI
    obtain ⟨m, rfl⟩ : ∃ m, gk = m + 1 := ⟨gk - 1, by omega⟩
    obtain ⟨c0, c1⟩ := hJx _ _ i3
    have HJ := Aside.mk i3
    clear i3
    obtain ⟨n, hn⟩ : ∃ n, endL c (s.data.toList.drop a) = n := ⟨_, rfl⟩
    have hnl : n ≤ s.size - a := by
      have := endL_le c (s.data.toList.drop a)
      rw [List.length_drop, HSL.out, hn] at this
      exact this
    obtain ⟨t, ht⟩ : ∃ t, a + n = t := ⟨_, rfl⟩
    have htS : t ≤ s.size := by omega
    have HEN := Aside.mk (show Calls Tryz.prog 82 #[.agg #[.string s], .int .i64 a, .int .u8 c.toNat] wr fun e w' => e = .returned (.int .i64 (t : Int)) ∧ Below wr.heap.size wr w' by
      have := end_calls s (by omega) a i1 c hc wr
      rwa [hn, ht] at this)
    have hex : (s.extract a t).data.toList = (s.data.toList.drop a).take n := by
      rw [Lib.extract_data, show t - a = n by omega]
    have hsz : (s.extract a t).size ≤ s.size := by rw [ByteArray.size_extract]; omega
    have HP := Aside.mk (show piecesL c s.data.toList = pre ++ (s.extract a t).data.toList :: (if t = s.size then [] else piecesF c m (s.data.toList.drop (t + 1))) by
      rw [i4, piecesF, hn, hex, List.length_drop, HSL.out]
      by_cases ht2 : t = s.size
      · rw [if_pos (by omega), if_pos ht2, List.take_of_length_le (by rw [List.length_drop, HSL.out]; omega)]
      · rw [if_neg (by omega), if_neg ht2, List.drop_drop, show a + (n + 1) = t + 1 by omega])
    have h0a : (0 : Int) ≤ (a : Int) := by omega
    have hat : (a : Int) ≤ (t : Int) := by omega
    have hts : (t : Int) ≤ (s.size : Int) := by omega
    have HSZ := Aside.mk hsz
    clear i4 hn hex hnl hsz
    obtain ⟨y, hy⟩ : ∃ y, s.extract a t = y := ⟨_, rfl⟩
    rw [hy] at HP HSZ
    refine (wpIn_wide (n := 1)).1 ?_
    gi_wp2_with fail
    refine ⟨trivial, callsIn_wide.2 (HEN.out.mono ?_)⟩
    rintro e w2 ⟨rfl, hb⟩
    have HJ2 := Aside.mk (hJb _ _ _ HJ.out hb)
    obtain ⟨d0, d1⟩ := hJx _ _ HJ2.out
    obtain ⟨fn, tm, asg, bo, hyy, hR⟩ := hY _ y _ w2 HP.out HSZ.out HJ2.out
    have HRR := Aside.mk hR
    clear hR hb c0 c1
    gi_wp2_with fail
    refine HRR.out.mono ?_
    rintro e w3 (⟨rfl, hj3⟩ | ⟨rfl, hst⟩)
    · have HJ3 := Aside.mk hj3
      obtain ⟨e0, e1⟩ := hJx _ _ HJ3.out
      clear hj3 hyy d0 d1
      by_cases htt : t = s.size
      · have hti : ((t : Int) == (s.size : Int)) = true := by simp [htt]
        have HF := Aside.mk (show J (piecesL c s.data.toList) w3 by rw [HP.out, if_pos htt]; exact HJ3.out)
        clear htt
        gi_wp2
        rw [Exit.noGoto_normal]
        go_end0
        exact ⟨⟨_, rfl⟩, .inl HF.out⟩
      · have hti : ((t : Int) == (s.size : Int)) = false := by rw [beq_eq_false_iff_ne]; omega
        have HF := Aside.mk (show piecesL c s.data.toList = (pre ++ [y.data.toList]) ++ piecesF c m (s.data.toList.drop (t + 1)) by rw [HP.out, if_neg htt]; simp)
        have HLT := Aside.mk (show t + 1 ≤ s.size by omega)
        clear htt
        gi_wp2
        go_roundg m
        case measure => omega
        case rel => exact ⟨t + 1, by go_num, ⟨pre ++ [y.data.toList], HLT.out, by omega, HJ3.out, HF.out⟩⟩
    · have HS := Aside.mk hst
      clear hst hyy d0 d1
      gi_wp2
      rw [Exit.noGoto_normal]
      go_end0
      exact ⟨⟨_, rfl⟩, .inr HS.out⟩
end Go.Proofs.YtjmpkbmgcbalkaaGreatDoor.Dn
/- Slices of bytes: that they read as lists; texts made of them, and they of texts. Conditions: the shape of memory that each theorem names. -/
namespace Go.Proofs.YtjmpkbmgcbalkaaGreatDoor
open Go.RowKit
set_option linter.unusedVariables false
def VByte : View UInt8 := fun _ _ vs x => vs = [.int .u8 x.toNat]
theorem VByte.ok : View.Ok 1 VByte := ⟨fun h _ => h, fun h _ _ => h, fun h => h, fun h => by rw [h]; rfl, fun h u hu => by rw [h] at hu; obtain rfl := List.mem_singleton.1 hu; rfl⟩
theorem bytesTy : RowTy Tryz.prog 68 5 1 := rowTy_of Tryz.underlying68 (by kernel_rfl) (by decide)
theorem strOf' (l : List UInt8) : strOfNums (l.map fun x => (x.toNat : Int)) = ⟨l.toArray⟩ := by
  unfold strOfNums
  congr 1
  rw [List.map_map]
  congr 1
  refine (List.map_congr_left (g := id) fun x _ => ?_).trans (List.map_id l)
  show UInt8.ofNat ((x.toNat : Int).toNat) = x
  rw [Int.toNat_natCast]; exact UInt8.ofNat_toNat
/-- a text of bytes -/
theorem bytes_text {w : World} {av : Nat → Prop} {v : Value} {l : List UInt8} (h : VSlice 1 VByte w av [v] l) : (convert 68 9 v).run Tryz.prog w = .ok (.string ⟨l.toArray⟩) w := by
  obtain ⟨A, c, rfl, _, hx⟩ := h.open
  by_cases hl : l = []
  · subst hl
    cases A with
    | none => exact run_convert_bytes_nil w 68 5 Tryz.underlying68 Tryz.underlying5 0 c 9 Tryz.underlying9
    | some ad =>
      obtain ⟨b, o, s⟩ := ad
      rw [run_convert_bytes_string w 68 9 5 _ _ _ Tryz.underlying68 Tryz.underlying5 Tryz.underlying9]
      rfl
  · obtain ⟨b, o, rfl, _, _, hc⟩ := hx hl
    rw [← strOf']
    refine run_convert_bytes_arg w 68 5 Tryz.underlying68 Tryz.underlying5 b o l.length c _ (by simp) (fun i hi => ?_) 9 Tryz.underlying9
    obtain ⟨ws, h1, h2⟩ := hc i l[i] (List.getElem?_eq_getElem hi)
    have e1 : ws = [.int .u8 l[i].toNat] := h1
    subst e1
    have h3 := h2 0 _ rfl
    simp only [Nat.mul_one, Nat.add_zero] at h3
    rw [h3]
    simp [List.getD_eq_getElem?_getD, List.getElem?_eq_getElem hi]
/-- bytes of a text, in a new row -/
theorem text_bytes (W : World) (av : Nat → Prop) (s : ByteArray) (hav : av W.heap.size) : VSlice 1 VByte (Lib.bytesWorld W 5 s) av [.slice (some ⟨W.heap.size, 0, none⟩) s.size (grownCap W s.size 0 5)] s.data.toList := by
  have hl := Txt.size_list s
  refine ⟨some ⟨W.heap.size, 0, none⟩, grownCap W s.size 0 5, by rw [hl], by rw [hl]; exact grownCap_ge _ _ _ _, fun _ => ⟨W.heap.size, 0, rfl, hav, by rw [Lib.bytesWorld_size]; omega, fun j u hu => ⟨_, rfl, fun i x hx => ?_⟩⟩⟩
  have hj : j < s.size := by rw [← hl]; exact (List.getElem?_eq_some_iff.1 hu).1
  have hi : i = 0 := by
    have := (List.getElem?_eq_some_iff.1 hx).1
    simpa using this
  subst hi
  cases hx
  rw [Nat.zero_add, Nat.mul_one, Nat.add_zero, Lib.bytesWorld_cell W 5 s j hj, List.getD_eq_getElem?_getD, hu]
  rfl
theorem text_below (W : World) (s : ByteArray) : Below W.heap.size W (Lib.bytesWorld W 5 s) :=
  ⟨rfl, rfl, rfl, by rw [Lib.bytesWorld_size]; omega, fun i hi => Lib.bytesWorld_at_old W 5 s i hi⟩
/-- a literal's bytes, in a new row -/
theorem lit_bytes (W : World) (av : Nat → Prop) (l : List UInt8) (hav : av W.heap.size) (n c : Nat) (hn : n = l.length) (hc : l.length ≤ c) : VSlice 1 VByte (W.alloc (.cells (l.map fun x => Value.int .u8 x.toNat).toArray 5)) av [.slice (some ⟨W.heap.size, 0, none⟩) n c] l :=
  VSlice.lit (wss := l.map fun x => [.int .u8 x.toNat]) VByte.ok (by simp) (flat_one _ l) (fun j x ws hx hw => by rw [List.getElem?_map, hx] at hw; cases hw; rfl) hav n c hn hc
end Go.Proofs.YtjmpkbmgcbalkaaGreatDoor
/- code.Hex. Conditions: the text has at most 10^8 bytes. -/
namespace Go.Proofs.YtjmpkbmgcbalkaaGreatDoor.Code
open Go.RowKit
set_option linter.unusedVariables false
def hexD (n : Nat) : UInt8 := if n < 10 then UInt8.ofNat (48 + n) else UInt8.ofNat (87 + n)
def hexB (c : UInt8) : List UInt8 := [hexD (c.toNat / 16), hexD (c.toNat % 16)]
def hexL (l : List UInt8) : List UInt8 := l.flatMap hexB
theorem and15 : ∀ n : Fin 256, bits BinOp.and IntKind.u8 ((n.1 : Nat) : Int) 15 = ((n.1 % 16 : Nat) : Int) := by decide +kernel
theorem digit_at (n : Nat) (hn : n < 16) (W : World) : (Instr.index 9 (.string ⟨#[48, 49, 50, 51, 52, 53, 54, 55, 56, 57, 97, 98, 99, 100, 101, 102]⟩) (.int .u8 n)).run Tryz.prog W = .ok (.int .u8 (hexD n).toNat) W := by
  rcases (by omega : n = 0 ∨ n = 1 ∨ n = 2 ∨ n = 3 ∨ n = 4 ∨ n = 5 ∨ n = 6 ∨ n = 7 ∨ n = 8 ∨ n = 9 ∨ n = 10 ∨ n = 11 ∨ n = 12 ∨ n = 13 ∨ n = 14 ∨ n = 15) with rfl | rfl | rfl | rfl | rfl | rfl | rfl | rfl | rfl | rfl | rfl | rfl | rfl | rfl | rfl | rfl <;> kernel_rfl
set_option maxRecDepth 100000 in
set_option maxHeartbeats 4000000 in
theorem hex_calls (s : ByteArray) (w : World) (hs : s.size ≤ 100000000) : Calls Tryz.prog 28 #[.string s] w fun e w' => e = .returned (.string ⟨(hexL s.data.toList).toArray⟩) ∧ Below w.heap.size w w' := by
  have kb := fun W => Lib.run_convert_string_bytes (P := Tryz.prog) W 9 68 5 s Tryz.underlying9 Tryz.underlying68 Tryz.underlying5
  have hsl := Txt.size_list s
  go_enter Tryz.func28, Tryz.ntmps28
  go_wp2_with fail
  have hV := Aside.mk (text_bytes w (fun _ => True) s trivial)
  have hB := Aside.mk (text_below w s)
  have hS : (Lib.bytesWorld w 5 s).heap.size = w.heap.size + 1 := by rw [Lib.bytesWorld_size]
  generalize Lib.bytesWorld w 5 s = W1 at hV hB hS ⊢
  generalize grownCap w s.size 0 5 = cp at hV ⊢
  clear kb
  go_loopg [3, 9] s.size (fun gk v3 v9 wr => ∃ (k : Nat), v9 = .int .i64 k ∧ Aside (k + gk = s.size ∧ OwnV 5 1 VByte wr W1.heap.size (fun b => W1.heap.size ≤ b) v3 (hexL (s.data.toList.take k)) ∧ Below W1.heap.size W1 wr))
  case atStart => exact ⟨0, rfl, ⟨by omega, OwnV.nil _ _ _ _ _ _, Below.refl _ _⟩⟩
  case round =>
    obtain ⟨k, rfl, HI⟩ := hrel
    obtain ⟨i1, i2, i3⟩ := HI.out
    clear HI
    have I2 := Aside.mk i2
    have I3 := Aside.mk i3
    clear i2 i3
    by_cases hk : k < s.size
    · obtain ⟨m, rfl⟩ : ∃ m, gk = m + 1 := ⟨gk - 1, by omega⟩
      have hki : (k : Int) < (s.size : Int) := by omega
      obtain ⟨A, c, eA, _, hx⟩ := hV.out.open
      obtain ⟨b, o, e2, _, hbl, hcell⟩ := hx (by intro e; have := congrArg List.length e; rw [hsl, List.length_nil] at this; omega)
      simp only [Value.slice.injEq] at eA
      obtain ⟨rfl, -, rfl⟩ := eA
      simp only [Option.some.injEq, Addr.mk.injEq, and_true] at e2
      obtain ⟨rfl, rfl⟩ := e2
      obtain ⟨ws, e1, e2⟩ := hcell k s[k] (by rw [List.getElem?_eq_getElem (by omega)]; rfl)
      have e1' : ws = [.int .u8 s[k].toNat] := e1
      subst e1'
      have ck : wr.cell? ⟨w.heap.size, k, none⟩ = some (.int .u8 s[k].toNat) := by
        have := cell_below (e2 0 _ rfl) I3.out
        simpa using this
      have HT := Aside.mk (show hexL (s.data.toList.take (k + 1)) = hexL (s.data.toList.take k) ++ hexB s[k] by rw [Txt.take_snoc s k hk]; simp [hexL])
      have HL := Aside.mk (show (hexL (s.data.toList.take k)).length ≤ 200000000 by
        have : ∀ l : List UInt8, (hexL l).length = 2 * l.length := fun l => by induction l with
          | nil => rfl
          | cons x t ih => rw [hexL, List.flatMap_cons, List.length_append, ← hexL, ih]; simp [hexB]; omega
        rw [this, List.length_take]; omega)
      generalize s[k] = x at ck HT
      have hx256 := x.toNat_lt
      have HSL := Aside.mk hsl
      have HSS := Aside.mk hS
      clear e1 e2 hcell hx hsl hS
      have hand := and15 ⟨x.toNat, hx256⟩
      dsimp only at hand
      obtain ⟨lo, hlo⟩ : ∃ lo, x.toNat % 16 = lo := ⟨_, rfl⟩
      obtain ⟨hi, hhi⟩ : ∃ hi, x.toNat / 16 = hi := ⟨_, rfl⟩
      have hsh : (x.toNat : Int) / 16 = (hi : Int) := by omega
      have hlo16 : lo < 16 := by omega
      have hhi16 : hi < 16 := by omega
      have HX := Aside.mk (show hexB x = [hexD hi, hexD lo] by unfold hexB; rw [hlo, hhi])
      have hi1 := digit_at hi hhi16
      have hi2 := digit_at lo hlo16
      rw [hlo] at hand
      clear hlo hhi
      have HR := Aside.mk (And.intro hlo16 hhi16)
      have hbl2 : W1.heap.size ≤ wr.heap.size := I3.out.size
      clear hlo16 hhi16
      go_wp2_with fail
      go_region_held3 (fun w' => True) (exact trivial) (
        (refine step_append_view VByte.ok bytesTy (by rfl) _ _ (by rfl) (by rfl) (I2.out.below VByte.ok ?_) (by rfl) (xs := hexL (s.data.toList.take k)) (ys := [hexD hi, hexD lo]) (xv := .slice (some ⟨wr.heap.size, 0, none⟩) 2 2) (avs := fun b => b = wr.heap.size) ?_ ?_ ?_ ?_ ?_
         · exact below_new_drew _ _
         · exact (VSlice.ok VByte.ok).below (lit_bytes wr (fun b => b = wr.heap.size) [hexD hi, hexD lo] rfl 2 2 rfl (by simp)) (below_drew _)
         · exact fun b hb _ => ⟨by omega, fun e => by have := (I2.out.lt b e.symm).2; omega⟩
         · (simp only [List.length_cons, List.length_nil]; have := HL.out; omega)
         · exact Nat.le_trans hbl2 (below_new_drew _ _).size
         intro v' w6 hown' hgrow hat))
      all_goals
        rw [← HX.out, ← HT.out] at hown'
        have L1 := Aside.mk hown'
        have L2 := Aside.mk (show Below W1.heap.size W1 w6 from below_of_own I3.out (below_new_drew _ _) hgrow (fun b e => (I2.out.lt b e).1))
        clear hown' hgrow hat hand hi1 hi2
        go_wp2
        go_roundg m
        case measure => omega
        case rel => exact ⟨k + 1, by go_num, ⟨by omega, L1.out, L2.out⟩⟩
    · have hk2 : (s.size : Int) ≤ (k : Int) := by omega
      have HE := Aside.mk (show s.data.toList.take k = s.data.toList from List.take_of_length_le (by rw [hsl]; omega))
      have hconv := bytes_text (I2.out.view VByte.ok)
      rw [HE.out] at hconv
      have HW := Aside.mk (show Below w.heap.size w wr from below_then hB.out I3.out)
      clear hk hsl hS
      go_wp2
      go_ret
      exact ⟨rfl, HW.out⟩
end Go.Proofs.YtjmpkbmgcbalkaaGreatDoor.Code
