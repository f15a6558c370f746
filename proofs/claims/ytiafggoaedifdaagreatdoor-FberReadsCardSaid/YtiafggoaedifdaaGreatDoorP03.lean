/- esc.printed: a value's text, each byte by a rule. Conditions: what the rule answers at each byte; the value has at most 10^6 bytes. -/
import Derived.Test.YtiafggoaedifdaaGreatDoorP02
namespace Go.Proofs.YtiafggoaedifdaaGreatDoor.Esc
open Go.RowKit Go.Lib
set_option linter.unusedVariables false
attribute [local go_sem] Oper.semAt_some
theorem ownsRowF_keep {w w' : World} {base : Nat} {e : TypeId} {size n : Nat} {v : Value} {xs : List Value} (h : w.ownsRowF base e size v n xs) (hk : ∀ (k : Nat) (cs : Array Value) (t : TypeId) (fr : Nat × Nat), w.heap[k]? = some (.cells cs t fr) → w'.heap[k]? = w.heap[k]?) : w'.ownsRowF base e size v n xs := by
 obtain ⟨h1, h2⟩ := h
 refine ⟨h1, ?_⟩
 rcases h2 with h2 | ⟨g, cap, cur, fz, hv, hbg, hg, r⟩
 ·exact .inl h2
 ·exact .inr ⟨g, cap, cur, fz, hv, hbg, (hk g _ _ _ hg).trans hg, r⟩
theorem bld_keep {T e : TypeId} {B b : Nat} {bs : List Value} {w w' : World} (h : IsBuilderF T e B b bs w) (hk : ∀ (k : Nat) (cs : Array Value) (t : TypeId) (fr : Nat × Nat), w.heap[k]? = some (.cells cs t fr) → w'.heap[k]? = w.heap[k]?) : IsBuilderF T e B b bs w' := by
 rcases h with ⟨hB, v, hb, hown, hne⟩ | ⟨hB, v, hb, hown, hne⟩
 ·exact .inl ⟨hB, v, (hk b _ _ _ hb).trans hb, ownsRowF_keep hown hk, hne⟩
 ·exact .inr ⟨hB, v, (hk b _ _ _ hb).trans hb, ownsRowF_keep hown hk, hne⟩
theorem bld_below {T e : TypeId} {B b : Nat} {bs : List Value} {w w' : World} (h : IsBuilderF T e B b bs w) (hb : Below w.heap.size w w') : IsBuilderF T e B b bs w' :=
 bld_keep h (fun k cs t fr hc => hb.block k (Array.getElem?_eq_some_iff.1 hc).1)
def outB (f : Nat → UInt8 → Bool × Bool) (k : Nat) (b : UInt8) : List UInt8 := (if (f k b).1 || (f k b).2 then [92] else []) ++ (if (f k b).2 then Code.hexB b else [b])
def outF (f : Nat → UInt8 → Bool × Bool) : Nat → List UInt8 → List UInt8
 | _, [] => []
 | k, b :: t => outB f k b ++ outF f (k + 1) t
theorem outF_snoc (f : Nat → UInt8 → Bool × Bool) : ∀ (l : List UInt8) (k : Nat) (b : UInt8), outF f k (l ++ [b]) = outF f k l ++ outB f (k + l.length) b
 | [], k, b => by simp [outF]
 | x :: t, k, b => by
  rw [List.cons_append, outF, outF_snoc f t (k + 1) b, outF, List.append_assoc, List.length_cons, show k + 1 + t.length = k + (t.length + 1) by omega]
theorem outF_len (f : Nat → UInt8 → Bool × Bool) : ∀ (l : List UInt8) (k : Nat), (outF f k l).length ≤ 3 * l.length
 | [], k => by simp [outF]
 | x :: t, k => by
  have h1 : (outB f k x).length ≤ 3 := by
   unfold outB
   cases (f k x).1 <;> cases (f k x).2 <;> simp [Code.hexB]
  have h2 := outF_len f t (k + 1)
  rw [outF, List.length_append, List.length_cons]; omega
def Bet (rc : Rng.Rec) (D Bx g : Nat) (lb : Array Value) (s : ByteArray) (f : Nat → UInt8 → Bool × Bool) (w : World) (pre : List UInt8) (W : World) : Prop :=
 W.heap[D]? = some (.deferred (some [])) ∧ W.heap[D + 1]? = some (rc.at .ready none) ∧ W.heap[w.heap.size]? = some (.cells #[.func (.func g) #[] lb] 72 (0, 0)) ∧ W.heap[Bx]? = some (.cells #[.string s] 9 (0, 0)) ∧ Below w.heap.size w W ∧
  IsBuilderF 90 5 (w.heap.size + 1) (w.heap.size + 1) (Lib.byteCells (outF f 0 pre)) W
structure Mid (rc : Rng.Rec) (D Bx g : Nat) (lb : Array Value) (s : ByteArray) (w : World) (bs : List Value) (W : World) : Prop where
 d : W.heap[D]? = some (.deferred (some []))
 l : W.heap[D + 1]? = some (rc.at .busy none)
 f : W.heap[w.heap.size]? = some (.cells #[.func (.func g) #[] lb] 72 (0, 0))
 x : W.heap[Bx]? = some (.cells #[.string s] 9 (0, 0))
 b : Below w.heap.size w W
 i : IsBuilderF 90 5 (w.heap.size + 1) (w.heap.size + 1) bs W
theorem Mid.write {rc : Rng.Rec} {D Bx g : Nat} {lb : Array Value} {s : ByteArray} {w : World} {bs bs' : List Value} {W W' : World} (h : Mid rc D Bx g lb s w bs W) (hD : w.heap.size + 1 < D) (hB : w.heap.size + 1 < Bx)
  (h1 : BuilderAtF 90 5 (w.heap.size + 1) (w.heap.size + 1) (.pointer (some ⟨w.heap.size + 1, 0, none⟩)) bs' W') (h2 : Below (w.heap.size + 1) W W') (h3 : OthersKept 5 (some (w.heap.size + 1)) W W') : Mid rc D Bx g lb s w bs' W' where
 d := h3 _ _ h.d (by simp; omega) (by rintro c fz e; cases e)
 l := h3 _ _ h.l (by simp; omega) (by rintro c fz e; cases e)
 f := h3 _ _ h.f (by simp) (by rintro c fz e; cases e)
 x := h3 _ _ h.x (by simp; omega) (by rintro c fz e; cases e)
 b := h.b.trans (h2.mono (by omega))
 i := .inr h1
theorem Mid.below {rc : Rng.Rec} {D Bx g : Nat} {lb : Array Value} {s : ByteArray} {w : World} {bs : List Value} {W W' : World} (h : Mid rc D Bx g lb s w bs W) (hb : Below W.heap.size W W') : Mid rc D Bx g lb s w bs W' where
 d := blk_below h.d hb
 l := blk_below h.l hb
 f := blk_below h.f hb
 x := blk_below h.x hb
 b := below_then h.b hb
 i := bld_below h.i hb
theorem Mid.close {rc : Rng.Rec} {D Bx g : Nat} {lb : Array Value} {s : ByteArray} {f : Nat → UInt8 → Bool × Bool} {w : World} {bs : List Value} {W : World} {pre : List UInt8} (h : Mid rc D Bx g lb s w bs W) (hD : w.heap.size + 1 < D) (hB : w.heap.size + 1 < Bx) (hBD : Bx < D) (hbs : bs = Lib.byteCells (outF f 0 pre)) :
  Bet rc D Bx g lb s f w pre (W.putObj (D + 1) (rc.at .ready none)) := by
 have hu := putObj_upd W (D + 1) (rc.at .ready none)
 subst hbs
 refine ⟨hu.blk h.d (by omega), World.putObj_heap_same (Array.getElem?_eq_some_iff.1 h.l).1, hu.blk h.f (by omega), hu.blk h.x (by omega), Upd.to_below h.b hu (by rintro k rfl; omega), ?_⟩
 exact bld_keep h.i (fun k cs t fr hc => hu.block k (Array.getElem?_eq_some_iff.1 hc).1 (by rintro rfl; rw [h.l] at hc; cases hc))
set_option maxRecDepth 100000 in
set_option maxHeartbeats 4000000 in
theorem printed_calls (f : Nat → UInt8 → Bool × Bool) (g : Nat) (lb : Array Value) (eg : ∀ args w, (callFunc g args).run Tryz.prog w = .ok (.enter g args) w) (s : ByteArray) (hs : s.size ≤ 1000000) (w : World)
  (hrule : ∀ W k b, Below w.heap.size w W → k < s.size → Calls Tryz.prog g (#[.int .i64 k, .int .u8 b.toNat] ++ lb) W fun e W' => e = .returned (.tuple #[.bool (f k b).1, .bool (f k b).2]) ∧ Below W.heap.size W W') :
  Calls Tryz.prog 48 #[.string s, .func (.func g) #[] lb] w fun e w' => e = .returned (.string ⟨(outF f 0 s.data.toList).toArray⟩) ∧ Below w.heap.size w w' := by
 refine Rng.calls_of_marks (n := 1) Tryz.func48 rfl ?_
 simp only [Tryz.ntmps48, List.size_toArray, List.length_cons, List.length_nil, Nat.reduceAdd, Nat.reduceSub, Array.replicate_succ, Array.replicate_zero, List.push_toArray, List.append_toArray, List.nil_append, List.cons_append]
 go_wp2_with fail
 have hb2 : Below w.heap.size w ((w.alloc (.cells #[.func (.func g) #[] lb] 72)).alloc (.cells #[.pointer none, .slice none 0 0] 90)) := below_then (below_new _ _) (below_new _ _)
 have h20 : ((w.alloc (.cells #[.func (.func g) #[] lb] 72)).alloc (.cells #[.pointer none, .slice none 0 0] 90)).heap[w.heap.size]? = some (.cells #[.func (.func g) #[] lb] 72 (0, 0)) := blk_below (World.alloc_heap_new w _) (below_new _ _)
 have h21 := IsBuilderF.of (fresh_isBuilder 90 5 (w.alloc (.cells #[.func (.func g) #[] lb] 72)))
 rw [World.size_alloc] at h21
 have h2s : ((w.alloc (.cells #[.func (.func g) #[] lb] 72)).alloc (.cells #[.pointer none, .slice none 0 0] 90)).heap.size = w.heap.size + 2 := by simp
 generalize ((w.alloc (.cells #[.func (.func g) #[] lb] 72)).alloc (.cells #[.pointer none, .slice none 0 0] 90)) = W2 at hb2 h20 h21 h2s ⊢
 have H2 := Aside.mk (And.intro hb2 (And.intro h20 (And.intro h21 h2s)))
 clear hb2 h20 h21 h2s
 refine (bytes_maker s _).mono ?_
 rintro e w3 ⟨rfl, h3⟩
 have h3b : Below W2.heap.size W2 w3 := by rw [← h3]; exact below_new _ _
 have h3c : w3.heap[W2.heap.size]? = some (.cells #[.string s] 9 (0, 0)) := by rw [← h3]; exact World.alloc_heap_new _ _
 have h3s : w3.heap.size = W2.heap.size + 1 := by rw [← h3]; simp
 have H3 := Aside.mk (And.intro h3b (And.intro h3c h3s))
 clear h3 h3b h3c h3s
 go_wp2_with fail
 refine Rng.wp_range (n := 1) (gf := 105) (lb := #[.pointer (some ⟨W2.heap.size, 0, none⟩)]) rfl (enters_of Tryz.func105 (by kernel_rfl) rfl) ?_
 intro fn
 generalize hrec : (Rng.Rec.mk fn _ _ _ _ _) = rc
 obtain ⟨W1, hW1⟩ : ∃ W1, W1 = (w3.alloc (.deferred (some []))).alloc (rc.at .ready none) := ⟨_, rfl⟩
 rw [← hW1]
 have hD := World.alloc_heap_new w3 (.deferred (some []))
 have hL := World.alloc_heap_new (w3.alloc (.deferred (some []))) (rc.at .ready none)
 have hD1 := blk_below hD (below_new _ (rc.at .ready none))
 have hbW : Below w3.heap.size w3 W1 := by rw [hW1]; exact below_then (below_new _ _) (below_new _ _)
 rw [World.size_alloc] at hL
 rw [← hW1] at hL hD1
 clear hW1 hD
 obtain ⟨hb2, h20, h21, h2s⟩ := H2.out
 obtain ⟨h3b, h3c, h3s⟩ := H3.out
 have hb23 := below_then h3b hbW
 have hwL : w.heap.size + 2 < w3.heap.size := by omega
 have hBL : W2.heap.size < w3.heap.size := by omega
 have hB2 : w.heap.size + 1 < W2.heap.size := by omega
 clear h2s h3s
 refine (bytes_iter (l0 := w3.heap.size + 1) (Bx := W2.heap.size) (s := s) (by omega) (Bet rc w3.heap.size W2.heap.size g lb s f w) ?_ ?_ W1 ?_).mono ?_
 ·intro pre W h
  exact cel h.2.2.2.1 0 rfl
 ·intro k hk W hJ
  obtain ⟨a1, a2, a3, a4, a5, a6⟩ := hJ
  have ea := congrArg Rng.Rec.assign hrec
  have eb := congrArg Rng.Rec.body hrec
  have ep := congrArg Rng.Rec.params hrec
  have et := congrArg Rng.Rec.tmps hrec
  dsimp only at ea eb ep et
  refine ⟨rc.fn, _, _, _, run_yield (P := Tryz.prog) a2 (by rw [← ep]; rfl), Rng.round a2 ?_⟩
  rw [← ea, ← eb, ← ep, ← et]
  clear ea eb ep et hrec
  gi_wp2
  refine ⟨a2, ?_⟩
  have hu := putObj_upd W (w3.heap.size + 1) (rc.at .busy none)
  have hLb : (W.putObj (w3.heap.size + 1) (rc.at .busy none)).heap[w3.heap.size + 1]? = some (rc.at .busy none) := World.putObj_heap_same (Array.getElem?_eq_some_iff.1 a2).1
  have a6' := bld_keep a6 (w' := W.putObj (w3.heap.size + 1) (rc.at .busy none)) (fun k cs t fr hc => hu.block k (Array.getElem?_eq_some_iff.1 hc).1 (by rintro rfl; rw [a2] at hc; cases hc))
  obtain ⟨WB, hWB⟩ : ∃ WB, WB = W.putObj (w3.heap.size + 1) (rc.at .busy none) := ⟨_, rfl⟩
  rw [← hWB] at hu hLb a6' ⊢
  clear hWB
  have A1 := Aside.mk (hu.blk a1 (by omega))
  have A3 := Aside.mk (hu.blk a3 (by omega))
  have A4 := Aside.mk (hu.blk a4 (by omega))
  have A5 := Aside.mk (Upd.to_below a5 hu (by rintro k rfl; omega))
  have AL := Aside.mk hLb
  have A6 := Aside.mk a6'
  have c0 : WB.cell? ⟨w.heap.size, 0, none⟩ = some (.func (.func g) #[] lb) := cel A3.out 0 rfl
  have HQ := Aside.mk (Txt.take_snoc s k hk)
  have HLn := Aside.mk (show (outF f 0 (s.data.toList.take k)).length ≤ 3000000 by
   have := outF_len f (s.data.toList.take k) 0
   rw [List.length_take, Txt.size_list] at this; omega)
  have HTL := Aside.mk (show (s.data.toList.take k).length = k by rw [List.length_take, Txt.size_list]; omega)
  generalize s[k] = b at HQ ⊢
  have HR := Aside.mk (hrule WB k b A5.out hk)
  clear a1 a2 a3 a4 a5 a6 a6' hu hLb hD1 hL hbW hb23
  gi_wp2_with fail
  refine ⟨trivial, rfl, CallsIn.inRound _ (callsIn_wide.2 (HR.out.mono ?_))⟩
  rintro e Wr ⟨rfl, hb⟩
  have M := Aside.mk (Mid.below (Mid.mk A1.out AL.out A3.out A4.out A5.out A6.out) hb)
  clear hb c0 A1 A3 A4 A5 AL A6 HR
  have HO := Aside.mk (show outF f 0 (s.data.toList.take (k + 1)) = outF f 0 (s.data.toList.take k) ++ outB f k b by rw [HQ.out, outF_snoc, HTL.out, Nat.zero_add])
  have hsz : w.heap.size + 1 ≤ Wr.heap.size := by have := (Array.getElem?_eq_some_iff.1 M.out.d).1; omega
  obtain ⟨sg, dg, hfk⟩ : ∃ sg dg, f k b = (sg, dg) := ⟨_, _, rfl⟩
  have HF := Aside.mk hfk
  rw [hfk]
  clear hfk
  cases sg <;> cases dg
  ·have HL0 := HLn.out
   gi_wp2_with fail
   refine ⟨trivial, rfl, CallsIn.inRound _ (callsIn_wide.2 ((Shelf.Builder_WriteByte_k (w.heap.size + 1) (w.heap.size + 1) _ b.toNat _ M.out.i (by rw [Lib.byteCells_length]; omega) hsz).mono ?_))⟩
   rintro e W10 ⟨rfl, h1, h2, h3⟩
   have M10 := Aside.mk (M.out.write (by omega) (by omega) h1 h2 h3)
   have z10 : w.heap.size + 1 ≤ W10.heap.size := Nat.le_trans hsz h2.size
   clear h1 h2 h3
   gi_wp2
   exact ⟨M10.out.l, M10.out.close (by omega) (by omega) (by omega) (by rw [HO.out, Lib.byteCells_append]; simp [outB, HF.out, Lib.byteCells])⟩
  ·have HL0 := HLn.out
   gi_wp2_with fail
   refine ⟨trivial, rfl, CallsIn.inRound _ (callsIn_wide.2 ((Shelf.Builder_WriteByte_k (w.heap.size + 1) (w.heap.size + 1) _ 92 _ M.out.i (by rw [Lib.byteCells_length]; omega) hsz).mono ?_))⟩
   rintro e W10 ⟨rfl, h1, h2, h3⟩
   have M10 := Aside.mk (M.out.write (by omega) (by omega) h1 h2 h3)
   have z10 : w.heap.size + 1 ≤ W10.heap.size := Nat.le_trans hsz h2.size
   clear h1 h2 h3
   have hcv := bytes_text (lit_bytes W10 (fun _ => True) [b] trivial 1 1 rfl (by simp))
   simp only [List.map_cons, List.map_nil] at hcv
   gi_wp2_with fail
   refine ⟨trivial, rfl, CallsIn.inRound _ (callsIn_wide.2 ((Code.hex_calls ⟨[b].toArray⟩ _ (by show 1 ≤ 100000000; omega)).mono ?_))⟩
   rintro e W11 ⟨rfl, hb⟩
   have M11 := Aside.mk (M10.out.below (below_then (below_new _ _) hb))
   have z11 : w.heap.size + 1 ≤ W11.heap.size := Nat.le_trans z10 (below_then (below_new _ _) hb).size
   clear hb hcv
   gi_wp2_with fail
   refine ⟨trivial, rfl, CallsIn.inRound _ (callsIn_wide.2 ((Shelf.Builder_WriteString_k (w.heap.size + 1) (w.heap.size + 1) _ _ _ M11.out.i (by rw [List.length_append, Lib.byteCells_length]; simp [Txt.size_mk, Code.hexL, Code.hexB]; have := HLn.out; omega) z11).mono ?_))⟩
   rintro e W12 ⟨rfl, h1, h2, h3⟩
   have M12 := Aside.mk (M11.out.write (by omega) (by omega) h1 h2 h3)
   clear h1 h2 h3
   gi_wp2
   exact ⟨M12.out.l, M12.out.close (by omega) (by omega) (by omega) (by rw [HO.out, Lib.byteCells_append]; simp [outB, HF.out, Lib.byteCells, Lib.strCells, Code.hexL])⟩
  ·have HL0 := HLn.out
   gi_wp2_with fail
   refine ⟨trivial, rfl, CallsIn.inRound _ (callsIn_wide.2 ((Shelf.Builder_WriteByte_k (w.heap.size + 1) (w.heap.size + 1) _ 92 _ M.out.i (by rw [Lib.byteCells_length]; omega) hsz).mono ?_))⟩
   rintro e W10 ⟨rfl, h1, h2, h3⟩
   have M10 := Aside.mk (M.out.write (by omega) (by omega) h1 h2 h3)
   have z10 : w.heap.size + 1 ≤ W10.heap.size := Nat.le_trans hsz h2.size
   clear h1 h2 h3
   gi_wp2_with fail
   refine ⟨trivial, rfl, CallsIn.inRound _ (callsIn_wide.2 ((Shelf.Builder_WriteByte_k (w.heap.size + 1) (w.heap.size + 1) _ b.toNat _ M10.out.i (by rw [List.length_append, Lib.byteCells_length, List.length_singleton]; omega) z10).mono ?_))⟩
   rintro e W11 ⟨rfl, h1, h2, h3⟩
   have M11 := Aside.mk (M10.out.write (by omega) (by omega) h1 h2 h3)
   have z11 : w.heap.size + 1 ≤ W11.heap.size := Nat.le_trans z10 h2.size
   clear h1 h2 h3
   gi_wp2
   exact ⟨M11.out.l, M11.out.close (by omega) (by omega) (by omega) (by rw [HO.out, Lib.byteCells_append]; simp [outB, HF.out, Lib.byteCells])⟩
  ·have HL0 := HLn.out
   gi_wp2_with fail
   refine ⟨trivial, rfl, CallsIn.inRound _ (callsIn_wide.2 ((Shelf.Builder_WriteByte_k (w.heap.size + 1) (w.heap.size + 1) _ 92 _ M.out.i (by rw [Lib.byteCells_length]; omega) hsz).mono ?_))⟩
   rintro e W10 ⟨rfl, h1, h2, h3⟩
   have M10 := Aside.mk (M.out.write (by omega) (by omega) h1 h2 h3)
   have z10 : w.heap.size + 1 ≤ W10.heap.size := Nat.le_trans hsz h2.size
   clear h1 h2 h3
   have hcv := bytes_text (lit_bytes W10 (fun _ => True) [b] trivial 1 1 rfl (by simp))
   simp only [List.map_cons, List.map_nil] at hcv
   gi_wp2_with fail
   refine ⟨trivial, rfl, CallsIn.inRound _ (callsIn_wide.2 ((Code.hex_calls ⟨[b].toArray⟩ _ (by show 1 ≤ 100000000; omega)).mono ?_))⟩
   rintro e W11 ⟨rfl, hb⟩
   have M11 := Aside.mk (M10.out.below (below_then (below_new _ _) hb))
   have z11 : w.heap.size + 1 ≤ W11.heap.size := Nat.le_trans z10 (below_then (below_new _ _) hb).size
   clear hb hcv
   gi_wp2_with fail
   refine ⟨trivial, rfl, CallsIn.inRound _ (callsIn_wide.2 ((Shelf.Builder_WriteString_k (w.heap.size + 1) (w.heap.size + 1) _ _ _ M11.out.i (by rw [List.length_append, Lib.byteCells_length]; simp [Txt.size_mk, Code.hexL, Code.hexB]; have := HLn.out; omega) z11).mono ?_))⟩
   rintro e W12 ⟨rfl, h1, h2, h3⟩
   have M12 := Aside.mk (M11.out.write (by omega) (by omega) h1 h2 h3)
   clear h1 h2 h3
   gi_wp2
   exact ⟨M12.out.l, M12.out.close (by omega) (by omega) (by omega) (by rw [HO.out, Lib.byteCells_append]; simp [outB, HF.out, Lib.byteCells, Lib.strCells, Code.hexL])⟩
 ·refine ⟨hD1, hL, blk_below h20 hb23, blk_below h3c hbW, below_then hb2 hb23, ?_⟩
  have := bld_below h21 hb23
  exact this
 ·rintro e W5 ⟨⟨v5, rfl⟩, hJ5⟩
  refine ⟨⟨_, rfl⟩, .ready, none, by simp, hJ5.2.1, ?_⟩
  dsimp only
  obtain ⟨a1, a2, a3, a4, a5, a6⟩ := hJ5
  have hu := putObj_upd W5 (w3.heap.size + 1) (rc.at .exhausted none)
  have a6' := bld_keep a6 (w' := W5.putObj (w3.heap.size + 1) (rc.at .exhausted none)) (fun k cs t fr hc => hu.block k (Array.getElem?_eq_some_iff.1 hc).1 (by rintro rfl; rw [a2] at hc; cases hc))
  obtain ⟨WB, hWB⟩ : ∃ WB, WB = W5.putObj (w3.heap.size + 1) (rc.at .exhausted none) := ⟨_, rfl⟩
  rw [← hWB] at hu a6' ⊢
  clear hWB hrec
  have A1 := Aside.mk (hu.blk a1 (by omega))
  have A5 := Aside.mk (Upd.to_below a5 hu (by rintro k rfl; omega))
  have A6 := Aside.mk a6'
  have hsz : w.heap.size + 1 ≤ WB.heap.size := by have := (Array.getElem?_eq_some_iff.1 A1.out).1; omega
  clear a1 a2 a3 a4 a5 a6 a6' hu hD1 hL hbW hb23
  go_wp2_with fail
  refine (Shelf.Builder_String_any_k (w.heap.size + 1) (w.heap.size + 1) _ WB A6.out hsz).mono ?_
  rintro e W7 ⟨rfl, _, h2, h3⟩
  have B1 := Aside.mk (h3 _ _ A1.out (by simp; omega) (by rintro c fz e; cases e))
  have B5 := Aside.mk (A5.out.trans (h2.mono (by omega)))
  clear h2 h3
  go_wp2
  refine ⟨by simp, .inl ⟨_, _, rfl, run_takeDeferred B1.out, ?_⟩⟩
  have hu8 := putObj_upd W7 w3.heap.size (.deferred none)
  refine ⟨_, by simp [results, Tryz.f48, go_sem], rfl, Upd.to_below B5.out hu8 (by rintro k rfl; omega)⟩
end Go.Proofs.YtiafggoaedifdaaGreatDoor.Esc
