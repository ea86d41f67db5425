import Derived.Test.YtjjnmefihdjglaaGreatGB
import Derived.Deep.RegionHeld3
import Derived.IntWalk
import Derived.Deep.RegionWith
import Derived.Laws.StructEq
import Derived.ChangeKeysEq
import Derived.Deep.DeepCutAuto
namespace Go.Proofs.YtjjnmefihdjglaaGreat
open Go.RowKit
def decV (M S : Int) : Value := .agg #[.int .i64 M, .int .i64 S]
def goodB (M S : Int) : Bool := decide (0 ≤ S ∧ S ≤ 18 ∧ M ≠ -9223372036854775808 ∧ (S = 0 ∨ M.tmod 10 ≠ 0))
def I64 (m : Int) : Prop := -9223372036854775808 ≤ m ∧ m ≤ 9223372036854775807
set_option maxHeartbeats 2000000 in
set_option maxRecDepth 100000 in
theorem Good_any (M S : Int) (w : World) (hM : I64 M) (hS : I64 S) :
  Calls Tryz.prog 130 #[decV M S] w fun e w' => e = .returned (.bool (goodB M S)) ∧ Ext w w' := by
 unfold decV
 obtain ⟨hM1, hM2⟩ := hM
 obtain ⟨hS1, hS2⟩ := hS
 by_cases h0 : 0 ≤ S
 ·by_cases h1 : S ≤ 18
  ·by_cases h2 : M = -9223372036854775808
   ·have hb : goodB M S = false := by unfold goodB; simp [h2]
    have H := Lib.hid hb
    have n2 : binOp .neq 2 (.int .i64 M) (.int .i64 (-9223372036854775808)) = pure (.bool false) := by
     rw [h2]; rfl
    clear h2 hb
    go_enter Tryz.func130, Tryz.ntmps130
    go_wp2_with fail
    go_ret
    exact ⟨retB H.out.symm, (Ext.refl _).alloc _⟩
   ·have n2 : binOp .neq 2 (.int .i64 M) (.int .i64 (-9223372036854775808)) = pure (.bool true) := by
     simp only [go_sem]; rw [show (M != -9223372036854775808) = true from by simpa using h2]
    by_cases h3 : S = 0
    ·have hb : goodB M S = true := by unfold goodB; exact decide_eq_true ⟨h0, h1, h2, .inl h3⟩
     have H := Lib.hid hb
     clear h2 hb
     subst h3
     go_enter Tryz.func130, Tryz.ntmps130
     go_wp2_with fail
     go_ret
     exact ⟨retB H.out.symm, (Ext.refl _).alloc _⟩
    ·by_cases h4 : M.tmod 10 = 0
     ·have hb : goodB M S = false := by unfold goodB; simp [h3, h4]
      have H := Lib.hid hb
      clear h2 hb
      go_enter Tryz.func130, Tryz.ntmps130
      go_wp2_with fail
      go_ret
      exact ⟨retB (by rw [H.out]; simpa using h3), (Ext.refl _).alloc _⟩
     ·have hb : goodB M S = true := by unfold goodB; exact decide_eq_true ⟨h0, h1, h2, .inr h4⟩
      have H := Lib.hid hb
      clear h2 hb
      go_enter Tryz.func130, Tryz.ntmps130
      go_wp2_with fail
      go_ret
      exact ⟨retB (by rw [H.out]; simp [h4]), (Ext.refl _).alloc _⟩
  ·have hb : goodB M S = false := by unfold goodB; simp [h1]
   have H := Lib.hid hb
   clear hb
   go_enter Tryz.func130, Tryz.ntmps130
   go_wp2_with fail
   go_ret
   exact ⟨retB H.out.symm, (Ext.refl _).alloc _⟩
 ·have hb : goodB M S = false := by unfold goodB; simp [h0]
  have H := Lib.hid hb
  clear hb
  go_enter Tryz.func130, Tryz.ntmps130
  go_wp2_with fail
  go_ret
  exact ⟨retB H.out.symm, (Ext.refl _).alloc _⟩
theorem gcd_step (a b : Nat) : Nat.gcd b (a % b) = Nat.gcd a b := by rw [Nat.gcd_comm b, ← Nat.gcd_rec b a, Nat.gcd_comm]
theorem pow_lt_k {by' k m n : Nat} (h2 : 2 ≤ by') (h : n = m * by' ^ k) (hm : 0 < m) (hn : n < W64) : k < 64 := by
 have h1 : 2 ^ k ≤ by' ^ k := Nat.pow_le_pow_left h2 k
 have h3 : by' ^ k ≤ n := by rw [h]; exact Nat.le_mul_of_pos_left _ hm
 have h4 : 2 ^ k < 2 ^ 64 := by unfold W64 at hn; omega
 exact (Nat.pow_lt_pow_iff_right (by omega)).1 h4
end Go.Proofs.YtjjnmefihdjglaaGreat
namespace Go.Proofs.YtjjnmefihdjglaaGreat
open Go.RowKit
def numV (neg : Bool) (N : Nat) (s : Int) : Value := .agg #[.bool neg, .int .u64 (wd N 0 : Int), .int .u64 (wd N 1 : Int), .int .u64 (wd N 2 : Int), .int .u64 (wd N 3 : Int), .int .i64 s]
def numCells (neg : Bool) (N : Nat) (s : Int) : Array Value := #[.bool neg, .int .u64 (wd N 0 : Int), .int .u64 (wd N 1 : Int), .int .u64 (wd N 2 : Int), .int .u64 (wd N 3 : Int), .int .i64 s]
theorem numberOf_held {w w' : World} {b : Nat} {M S : Int} (x : Ext w w') (hz : b + 2 ≤ w.heap.size) (h : w.cell? ⟨b, 0, none⟩ = some (.int .i64 M) ∧ w.cell? ⟨b, 1, none⟩ = some (.int .i64 S) ∧ w.cell? ⟨b + 1, 0, none⟩ = some (.bool false) ∧ w.frozen? ⟨b + 1, 0, none⟩ = false ∧ w.cell? ⟨b + 1, 1, none⟩ = some (.int .u64 0) ∧ w.frozen? ⟨b + 1, 1, none⟩ = false ∧ w.cell? ⟨b + 1, 2, none⟩ = some (.int .u64 0) ∧ w.frozen? ⟨b + 1, 2, none⟩ = false ∧ w.cell? ⟨b + 1, 3, none⟩ = some (.int .u64 0) ∧ w.frozen? ⟨b + 1, 3, none⟩ = false ∧ w.cell? ⟨b + 1, 4, none⟩ = some (.int .u64 0) ∧ w.frozen? ⟨b + 1, 4, none⟩ = false ∧ w.cell? ⟨b + 1, 5, none⟩ = some (.int .i64 0) ∧ w.frozen? ⟨b + 1, 5, none⟩ = false) :
  w'.cell? ⟨b, 0, none⟩ = some (.int .i64 M) ∧ w'.cell? ⟨b, 1, none⟩ = some (.int .i64 S) ∧ w'.cell? ⟨b + 1, 0, none⟩ = some (.bool false) ∧ w'.frozen? ⟨b + 1, 0, none⟩ = false ∧ w'.cell? ⟨b + 1, 1, none⟩ = some (.int .u64 0) ∧ w'.frozen? ⟨b + 1, 1, none⟩ = false ∧ w'.cell? ⟨b + 1, 2, none⟩ = some (.int .u64 0) ∧ w'.frozen? ⟨b + 1, 2, none⟩ = false ∧ w'.cell? ⟨b + 1, 3, none⟩ = some (.int .u64 0) ∧ w'.frozen? ⟨b + 1, 3, none⟩ = false ∧ w'.cell? ⟨b + 1, 4, none⟩ = some (.int .u64 0) ∧ w'.frozen? ⟨b + 1, 4, none⟩ = false ∧ w'.cell? ⟨b + 1, 5, none⟩ = some (.int .i64 0) ∧ w'.frozen? ⟨b + 1, 5, none⟩ = false := by
 have h0 : b < w.heap.size := by omega
 have h1 : b + 1 < w.heap.size := by omega
 obtain ⟨g0, g1, g2, g3, g4, g5, g6, g7, g8, g9, g10, g11, g12, g13⟩ := h
 exact ⟨(x.cell (p := ⟨b, 0, none⟩) h0).trans g0, (x.cell (p := ⟨b, 1, none⟩) h0).trans g1, (x.cell (p := ⟨b + 1, 0, none⟩) h1).trans g2, (x.frozen (p := ⟨b + 1, 0, none⟩) h1).trans g3, (x.cell (p := ⟨b + 1, 1, none⟩) h1).trans g4, (x.frozen (p := ⟨b + 1, 1, none⟩) h1).trans g5, (x.cell (p := ⟨b + 1, 2, none⟩) h1).trans g6, (x.frozen (p := ⟨b + 1, 2, none⟩) h1).trans g7, (x.cell (p := ⟨b + 1, 3, none⟩) h1).trans g8, (x.frozen (p := ⟨b + 1, 3, none⟩) h1).trans g9, (x.cell (p := ⟨b + 1, 4, none⟩) h1).trans g10, (x.frozen (p := ⟨b + 1, 4, none⟩) h1).trans g11, (x.cell (p := ⟨b + 1, 5, none⟩) h1).trans g12, (x.frozen (p := ⟨b + 1, 5, none⟩) h1).trans g13⟩
set_option maxHeartbeats 4000000 in
set_option maxRecDepth 100000 in
theorem numberOf_any (M S s : Int) (k : Nat) (w : World) (hM : I64 M) (hs : s - S = (k : Int)) (hk : k < 1000) (hp : M.natAbs * 10 ^ k < W256) :
  Calls Tryz.prog 120 #[decV M S, .int .i64 s] w fun e w' => e = .returned (numV (decide (M < 0)) (M.natAbs * 10 ^ k) s) ∧ Ext w w' := by
 unfold decV
 have hb : M.natAbs < W64 := by unfold I64 W64 at *; omega
 have C1 := fun w => abs_any M w hM
 have C2 := fun w => of_any M.natAbs w hb
 have C3 : ∀ w, Calls Tryz.prog 134 #[wideV M.natAbs, .int .u64 10, .int .i64 k] w fun e w' => e = .returned (wideV (M.natAbs * 10 ^ k)) ∧ Ext w w' := fun w => power_any M.natAbs 10 k w (by decide) (by decide) hk hp
 have e1 : IntKind.i64.wrap (s - S) = (k : Int) := by rw [hs]; exact IntWalk.i64_in _ (by omega)
 clear hs hp hb
 generalize hN : M.natAbs * 10 ^ k = N at *
 generalize hA : M.natAbs = A at *
 clear hN hA
 have C3' : ∀ w, Calls Tryz.prog 134 #[wideV A, .int .u64 10, .int .i64 k] w fun e w' => e = .returned (.agg #[.int .u64 (wd N 0 : Int), .int .u64 (wd N 1 : Int), .int .u64 (wd N 2 : Int), .int .u64 (wd N 3 : Int)]) ∧ Ext w w' := C3
 clear C3
 go_enter Tryz.func120, Tryz.ntmps120
 go_wp2_with fail
 have hx : Ext w ((w.alloc (.cells #[.int .i64 M, .int .i64 S] 38)).alloc (.cells #[.bool false, .int .u64 0, .int .u64 0, .int .u64 0, .int .u64 0, .int .i64 0] 140)) := ((Ext.refl _).alloc _).alloc _
 have hz : w.heap.size + 2 ≤ ((w.alloc (.cells #[.int .i64 M, .int .i64 S] 38)).alloc (.cells #[.bool false, .int .u64 0, .int .u64 0, .int .u64 0, .int .u64 0, .int .i64 0] 140)).heap.size := by rw [heap_size_alloc, heap_size_alloc]; omega
 have hc : ((w.alloc (.cells #[.int .i64 M, .int .i64 S] 38)).alloc (.cells #[.bool false, .int .u64 0, .int .u64 0, .int .u64 0, .int .u64 0, .int .i64 0] 140)).cell? ⟨w.heap.size, 0, none⟩ = some (.int .i64 M) ∧ ((w.alloc (.cells #[.int .i64 M, .int .i64 S] 38)).alloc (.cells #[.bool false, .int .u64 0, .int .u64 0, .int .u64 0, .int .u64 0, .int .i64 0] 140)).cell? ⟨w.heap.size, 1, none⟩ = some (.int .i64 S) ∧ ((w.alloc (.cells #[.int .i64 M, .int .i64 S] 38)).alloc (.cells #[.bool false, .int .u64 0, .int .u64 0, .int .u64 0, .int .u64 0, .int .i64 0] 140)).cell? ⟨w.heap.size + 1, 0, none⟩ = some (.bool false) ∧ ((w.alloc (.cells #[.int .i64 M, .int .i64 S] 38)).alloc (.cells #[.bool false, .int .u64 0, .int .u64 0, .int .u64 0, .int .u64 0, .int .i64 0] 140)).frozen? ⟨w.heap.size + 1, 0, none⟩ = false ∧ ((w.alloc (.cells #[.int .i64 M, .int .i64 S] 38)).alloc (.cells #[.bool false, .int .u64 0, .int .u64 0, .int .u64 0, .int .u64 0, .int .i64 0] 140)).cell? ⟨w.heap.size + 1, 1, none⟩ = some (.int .u64 0) ∧ ((w.alloc (.cells #[.int .i64 M, .int .i64 S] 38)).alloc (.cells #[.bool false, .int .u64 0, .int .u64 0, .int .u64 0, .int .u64 0, .int .i64 0] 140)).frozen? ⟨w.heap.size + 1, 1, none⟩ = false ∧ ((w.alloc (.cells #[.int .i64 M, .int .i64 S] 38)).alloc (.cells #[.bool false, .int .u64 0, .int .u64 0, .int .u64 0, .int .u64 0, .int .i64 0] 140)).cell? ⟨w.heap.size + 1, 2, none⟩ = some (.int .u64 0) ∧ ((w.alloc (.cells #[.int .i64 M, .int .i64 S] 38)).alloc (.cells #[.bool false, .int .u64 0, .int .u64 0, .int .u64 0, .int .u64 0, .int .i64 0] 140)).frozen? ⟨w.heap.size + 1, 2, none⟩ = false ∧ ((w.alloc (.cells #[.int .i64 M, .int .i64 S] 38)).alloc (.cells #[.bool false, .int .u64 0, .int .u64 0, .int .u64 0, .int .u64 0, .int .i64 0] 140)).cell? ⟨w.heap.size + 1, 3, none⟩ = some (.int .u64 0) ∧ ((w.alloc (.cells #[.int .i64 M, .int .i64 S] 38)).alloc (.cells #[.bool false, .int .u64 0, .int .u64 0, .int .u64 0, .int .u64 0, .int .i64 0] 140)).frozen? ⟨w.heap.size + 1, 3, none⟩ = false ∧ ((w.alloc (.cells #[.int .i64 M, .int .i64 S] 38)).alloc (.cells #[.bool false, .int .u64 0, .int .u64 0, .int .u64 0, .int .u64 0, .int .i64 0] 140)).cell? ⟨w.heap.size + 1, 4, none⟩ = some (.int .u64 0) ∧ ((w.alloc (.cells #[.int .i64 M, .int .i64 S] 38)).alloc (.cells #[.bool false, .int .u64 0, .int .u64 0, .int .u64 0, .int .u64 0, .int .i64 0] 140)).frozen? ⟨w.heap.size + 1, 4, none⟩ = false ∧ ((w.alloc (.cells #[.int .i64 M, .int .i64 S] 38)).alloc (.cells #[.bool false, .int .u64 0, .int .u64 0, .int .u64 0, .int .u64 0, .int .i64 0] 140)).cell? ⟨w.heap.size + 1, 5, none⟩ = some (.int .i64 0) ∧ ((w.alloc (.cells #[.int .i64 M, .int .i64 S] 38)).alloc (.cells #[.bool false, .int .u64 0, .int .u64 0, .int .u64 0, .int .u64 0, .int .i64 0] 140)).frozen? ⟨w.heap.size + 1, 5, none⟩ = false := by simp [go_sem]
 generalize (w.alloc (.cells #[.int .i64 M, .int .i64 S] 38)).alloc (.cells #[.bool false, .int .u64 0, .int .u64 0, .int .u64 0, .int .u64 0, .int .i64 0] 140) = W at *
 go_region_held3 (fun w' => w'.cell? ⟨w.heap.size, 0, none⟩ = some (.int .i64 M) ∧ w'.cell? ⟨w.heap.size, 1, none⟩ = some (.int .i64 S)) (first | go_keep | exact ⟨(numberOf_held x6 hz hc).1, (numberOf_held x6 hz hc).2.1⟩ | exact ⟨(numberOf_held x5 hz hc).1, (numberOf_held x5 hz hc).2.1⟩) (first | (go_at_call 133; refine (C1 _).mono ?_; rintro e w4 ⟨rfl, rfl⟩) | (go_at_call 132; refine (C2 _).mono ?_; rintro e w5 ⟨rfl, x5⟩) | (go_at_call 134; refine (C3' _).mono ?_; rintro e w6 ⟨rfl, y6⟩; have x6 := x5.trans y6; obtain ⟨q0, q1, g0, f0, g1, f1, g2, f2, g3, f3, g4, f4, g5, f5⟩ := numberOf_held x6 hz hc))
 go_wp2_with fail
 refine bodyPost_ret (v := numV (decide (M < 0)) N s) ?_ rfl ⟨rfl, ?_⟩
 ·simp [results, Tryz.results120, go_sem, numV, wideV, g0, g1, g2, g3, g4, g5]
 ·have hb : w.heap.size ≤ w.heap.size + 1 := Nat.le_succ _
  exact ext_setCell (ext_setCell (ext_setCell (ext_setCell (ext_setCell (ext_setCell (hx.drew.trans x6) hb _) hb _) hb _) hb _) hb _) hb _
end Go.Proofs.YtjjnmefihdjglaaGreat
namespace Go.Proofs.YtjjnmefihdjglaaGreat
open Go.RowKit
theorem heap_at2a (w : World) (o p : Obj) : ((w.alloc o).alloc p).heap[w.heap.size]? = some o := (Below.heap_alloc _ _ _ (by rw [heap_size_alloc]; omega)).trans (heap_last _ _)
theorem heap_at2b (w : World) (o p : Obj) : ((w.alloc o).alloc p).heap[w.heap.size + 1]? = some p := by rw [← heap_size_alloc w o]; exact heap_last _ _
theorem heap_at3a (w : World) (o p q : Obj) : (((w.alloc o).alloc p).alloc q).heap[w.heap.size]? = some o := (Below.heap_alloc _ _ _ (by rw [heap_size_alloc, heap_size_alloc]; omega)).trans (heap_at2a _ _ _)
theorem heap_at3b (w : World) (o p q : Obj) : (((w.alloc o).alloc p).alloc q).heap[w.heap.size + 1]? = some p := (Below.heap_alloc _ _ _ (by rw [heap_size_alloc, heap_size_alloc]; omega)).trans (heap_at2b _ _ _)
theorem heap_at3c (w : World) (o p q : Obj) : (((w.alloc o).alloc p).alloc q).heap[w.heap.size + 2]? = some q := by
 have := heap_last ((w.alloc o).alloc p) q
 rwa [heap_size_alloc, heap_size_alloc] at this
def DecIn (b : Nat) (M S : Int) (w : World) : Prop := w.heap[b]? = some (.cells #[.int .i64 M, .int .i64 S] 38 (0, 0))
theorem DecIn.ext {b : Nat} {M S : Int} {w w' : World} (h : DecIn b M S w) (hk : Ext w w') : DecIn b M S w' := (hk.heap (Array.getElem?_eq_some_iff.1 h).1).trans h
theorem DecIn.cells {b : Nat} {M S : Int} {w : World} (h : DecIn b M S w) :
  w.cell? ⟨b, 0, none⟩ = some (.int .i64 M) ∧ w.cell? ⟨b, 1, none⟩ = some (.int .i64 S) := by
 refine ⟨?_, ?_⟩ <;> (rw [Lib.cell_of_heap h]; rfl)
theorem DecIn.free {b : Nat} {M S : Int} {w : World} (h : DecIn b M S w) :
  w.frozen? ⟨b, 0, none⟩ = false ∧ w.frozen? ⟨b, 1, none⟩ = false := ⟨Lib.frozen_of_heap h 0, Lib.frozen_of_heap h 1⟩
def setDec (w : World) (b : Nat) (M S : Int) : World := (w.setCell ⟨b, 0, none⟩ (.int .i64 M)).setCell ⟨b, 1, none⟩ (.int .i64 S)
theorem DecIn.stored {b : Nat} {M S : Int} {w : World} (h : DecIn b M S w) (M' S' : Int) : DecIn b M' S' (setDec w b M' S') := by
 unfold DecIn at *
 simp [setDec, World.setCell, Array.getElem?_modify, h]
theorem heap_setDec (w : World) (b k : Nat) (M S : Int) (h : k ≠ b) : (setDec w b M S).heap[k]? = w.heap[k]? := by
 unfold setDec
 rw [Below.heap_setCell _ _ _ _ h, Below.heap_setCell _ _ _ _ h]
theorem ext_setDec {a w : World} (h : Ext a w) {b : Nat} (hb : a.heap.size ≤ b) (M S : Int) : Ext a (setDec w b M S) :=
 ext_setCell (ext_setCell h hb _) hb _
def NumIn (b : Nat) (n : Bool) (A : Nat) (s : Int) (w : World) : Prop := w.heap[b]? = some (.cells #[.bool n, .int .u64 (wd A 0 : Int), .int .u64 (wd A 1 : Int), .int .u64 (wd A 2 : Int), .int .u64 (wd A 3 : Int), .int .i64 s] 140 (0, 0))
theorem NumIn.ext {b : Nat} {n : Bool} {A : Nat} {s : Int} {w w' : World} (h : NumIn b n A s w) (hk : Ext w w') : NumIn b n A s w' := (hk.heap (Array.getElem?_eq_some_iff.1 h).1).trans h
theorem NumIn.cells {b : Nat} {n : Bool} {A : Nat} {s : Int} {w : World} (h : NumIn b n A s w) :
  w.cell? ⟨b, 0, none⟩ = some (.bool n) ∧ w.cell? ⟨b, 1, none⟩ = some (.int .u64 (wd A 0 : Int)) ∧ w.cell? ⟨b, 2, none⟩ = some (.int .u64 (wd A 1 : Int)) ∧ w.cell? ⟨b, 3, none⟩ = some (.int .u64 (wd A 2 : Int)) ∧ w.cell? ⟨b, 4, none⟩ = some (.int .u64 (wd A 3 : Int)) ∧ w.cell? ⟨b, 5, none⟩ = some (.int .i64 s) := by
 refine ⟨?_, ?_, ?_, ?_, ?_, ?_⟩ <;> (rw [Lib.cell_of_heap h]; rfl)
theorem NumIn.free {b : Nat} {n : Bool} {A : Nat} {s : Int} {w : World} (h : NumIn b n A s w) :
  w.frozen? ⟨b, 0, none⟩ = false ∧ w.frozen? ⟨b, 1, none⟩ = false ∧ w.frozen? ⟨b, 2, none⟩ = false ∧ w.frozen? ⟨b, 3, none⟩ = false ∧ w.frozen? ⟨b, 4, none⟩ = false ∧ w.frozen? ⟨b, 5, none⟩ = false :=
 ⟨Lib.frozen_of_heap h 0, Lib.frozen_of_heap h 1, Lib.frozen_of_heap h 2, Lib.frozen_of_heap h 3, Lib.frozen_of_heap h 4, Lib.frozen_of_heap h 5⟩
set_option maxHeartbeats 2000000 in
set_option maxRecDepth 100000 in
theorem counted_any (M S : Int) (w : World) (hM : I64 M) (hS : I64 S) :
  Calls Tryz.prog 119 #[decV M S] w fun e w' => e = .returned (decV (if goodB M S then M else 0) (if goodB M S then S else 0)) ∧ Ext w w' := by
 have C := fun w => Good_any M S w hM hS
 unfold decV at *
 clear hM hS
 have hx : Ext w ((w.alloc (.cells #[.int .i64 M, .int .i64 S] 38)).alloc (.cells #[.int .i64 0, .int .i64 0] 38)) := ((Ext.refl _).alloc _).alloc _
 have h1 : DecIn w.heap.size M S ((w.alloc (.cells #[.int .i64 M, .int .i64 S] 38)).alloc (.cells #[.int .i64 0, .int .i64 0] 38)) := heap_at2a _ _ _
 have h2 : DecIn (w.heap.size + 1) 0 0 ((w.alloc (.cells #[.int .i64 M, .int .i64 S] 38)).alloc (.cells #[.int .i64 0, .int .i64 0] 38)) := heap_at2b _ _ _
 generalize hg : goodB M S = g at *
 clear hg
 cases g
 ·go_enter Tryz.func119, Tryz.ntmps119
  go_wp2_with fail
  refine (C _).mono ?_
  rintro e w1 ⟨rfl, x1⟩
  replace h2 := h2.ext x1
  obtain ⟨d0, d1⟩ := h2.cells
  obtain ⟨f0, f1⟩ := h2.free
  clear h1
  go_wp2_with fail
  refine bodyPost_ret (v := decV 0 0) ?_ rfl ⟨rfl, ext_setDec (hx.trans x1) (Nat.le_succ _) _ _⟩
  obtain ⟨e0, e1⟩ := (h2.stored 0 0).cells
  change (results Tryz.f119 _).run Tryz.prog (setDec w1 (w.heap.size + 1) 0 0) = .ok _ (setDec w1 (w.heap.size + 1) 0 0)
  generalize setDec w1 (w.heap.size + 1) 0 0 = W at *
  simp [results, Tryz.results119, go_sem, e0, e1, decV]
 ·rw [if_pos rfl, if_pos rfl]
  go_enter Tryz.func119, Tryz.ntmps119
  go_wp2_with fail
  refine (C _).mono ?_
  rintro e w1 ⟨rfl, x1⟩
  replace h1 := h1.ext x1
  replace h2 := h2.ext x1
  obtain ⟨c0, c1⟩ := h1.cells
  obtain ⟨d0, d1⟩ := h2.cells
  obtain ⟨f0, f1⟩ := h2.free
  go_wp2_with fail
  refine bodyPost_ret (v := decV M S) ?_ rfl ⟨rfl, ext_setDec (hx.trans x1) (Nat.le_succ _) _ _⟩
  obtain ⟨e0, e1⟩ := (h2.stored M S).cells
  change (results Tryz.f119 _).run Tryz.prog (setDec w1 (w.heap.size + 1) M S) = .ok _ (setDec w1 (w.heap.size + 1) M S)
  generalize setDec w1 (w.heap.size + 1) M S = W at *
  simp [results, Tryz.results119, go_sem, e0, e1, decV]
def ncmp (n : Bool) (A : Nat) (m : Bool) (B : Nat) : Int := if n then (if m then cmpN B A else -1) else (if m then 1 else cmpN A B)
set_option maxHeartbeats 2000000 in
set_option maxRecDepth 100000 in
theorem ncompare_any (n m : Bool) (A B : Nat) (s : Int) (w : World) (hA : A < W256) (hB : B < W256) :
  Calls Tryz.prog 121 #[numV n A s, numV m B s] w fun e w' => e = .returned (.int .i64 (ncmp n A m B)) ∧ Ext w w' := by
 have C1 := fun w => compare_any A B w hA hB
 have C2 := fun w => compare_any B A w hB hA
 unfold numV wideV at *
 clear hA hB
 cases n
 ·cases m
  ·go_enter Tryz.func121, Tryz.ntmps121
   go_wp2_with fail
   refine (C1 _).mono ?_
   rintro e w1 ⟨rfl, x1⟩
   go_wp2_with fail
   go_ret
   exact ⟨rfl, (((Ext.refl _).alloc _).alloc _).trans x1⟩
  ·go_enter Tryz.func121, Tryz.ntmps121
   go_wp2_with fail
   go_ret
   exact ⟨rfl, ((Ext.refl _).alloc _).alloc _⟩
 ·cases m
  ·go_enter Tryz.func121, Tryz.ntmps121
   go_wp2_with fail
   go_ret
   exact ⟨rfl, ((Ext.refl _).alloc _).alloc _⟩
  ·go_enter Tryz.func121, Tryz.ntmps121
   go_wp2_with fail
   refine (C2 _).mono ?_
   rintro e w1 ⟨rfl, x1⟩
   go_wp2_with fail
   go_ret
   exact ⟨rfl, (((Ext.refl _).alloc _).alloc _).trans x1⟩
end Go.Proofs.YtjjnmefihdjglaaGreat
namespace Go.Proofs.YtjjnmefihdjglaaGreat
open Go.RowKit
def setNumW (w : World) (b N : Nat) : World := (((w.setCell ⟨b, 1, none⟩ (.int .u64 (wd N 0 : Int))).setCell ⟨b, 2, none⟩ (.int .u64 (wd N 1 : Int))).setCell ⟨b, 3, none⟩ (.int .u64 (wd N 2 : Int))).setCell ⟨b, 4, none⟩ (.int .u64 (wd N 3 : Int))
def setNum (w : World) (b : Nat) (n : Bool) (N : Nat) (s : Int) : World := (setNumW (w.setCell ⟨b, 0, none⟩ (.bool n)) b N).setCell ⟨b, 5, none⟩ (.int .i64 s)
theorem NumIn.storedW {b : Nat} {n : Bool} {A : Nat} {s : Int} {w : World} (h : NumIn b n A s w) (N : Nat) : NumIn b n N s (setNumW w b N) := by
 unfold NumIn at *
 simp [setNumW, World.setCell, Array.getElem?_modify, h]
theorem NumIn.stored {b : Nat} {n : Bool} {A : Nat} {s : Int} {w : World} (h : NumIn b n A s w) (m : Bool) (N : Nat) (t : Int) : NumIn b m N t (setNum w b m N t) := by
 unfold NumIn at *
 simp [setNum, setNumW, World.setCell, Array.getElem?_modify, h]
theorem NumIn.storedB {b : Nat} {n : Bool} {A : Nat} {s : Int} {w : World} (h : NumIn b n A s w) (m : Bool) : NumIn b m A s (w.setCell ⟨b, 0, none⟩ (.bool m)) := by
 unfold NumIn at *
 simp [World.setCell, Array.getElem?_modify, h]
theorem NumIn.storedS {b : Nat} {n : Bool} {A : Nat} {s : Int} {w : World} (h : NumIn b n A s w) (t : Int) : NumIn b n A t (w.setCell ⟨b, 5, none⟩ (.int .i64 t)) := by
 unfold NumIn at *
 simp [World.setCell, Array.getElem?_modify, h]
theorem heap_setNumW (w : World) (b N k : Nat) (h : k ≠ b) : (setNumW w b N).heap[k]? = w.heap[k]? := by
 unfold setNumW
 rw [Below.heap_setCell _ _ _ _ h, Below.heap_setCell _ _ _ _ h, Below.heap_setCell _ _ _ _ h, Below.heap_setCell _ _ _ _ h]
theorem ext_setNumW {a w : World} (h : Ext a w) {b : Nat} (hb : a.heap.size ≤ b) (N : Nat) : Ext a (setNumW w b N) :=
 ext_setCell (ext_setCell (ext_setCell (ext_setCell h hb _) hb _) hb _) hb _
theorem ext_setNum {a w : World} (h : Ext a w) {b : Nat} (hb : a.heap.size ≤ b) (n : Bool) (N : Nat) (s : Int) : Ext a (setNum w b n N s) :=
 ext_setCell (ext_setNumW (ext_setCell h hb _) hb _) hb _
def nplusN (n : Bool) (A : Nat) (m : Bool) (B : Nat) : Nat := if n = m then A + B else if B ≤ A then A - B else B - A
def nplusS (n : Bool) (A : Nat) (m : Bool) (B : Nat) : Bool := if n = m then n else if B ≤ A then n else m
theorem plus_keep {b c : Nat} {n m : Bool} {A B : Nat} {s t : Int} {w w' : World} (h1 : NumIn b n A s w) (h2 : NumIn c m B t w) (x : Ext w w') :
  w'.cell? ⟨b, 1, none⟩ = some (.int .u64 (wd A 0 : Int)) ∧ w'.cell? ⟨b, 2, none⟩ = some (.int .u64 (wd A 1 : Int)) ∧ w'.cell? ⟨b, 3, none⟩ = some (.int .u64 (wd A 2 : Int)) ∧ w'.cell? ⟨b, 4, none⟩ = some (.int .u64 (wd A 3 : Int)) ∧ w'.cell? ⟨c, 0, none⟩ = some (.bool m) ∧ w'.cell? ⟨c, 1, none⟩ = some (.int .u64 (wd B 0 : Int)) ∧ w'.cell? ⟨c, 2, none⟩ = some (.int .u64 (wd B 1 : Int)) ∧ w'.cell? ⟨c, 3, none⟩ = some (.int .u64 (wd B 2 : Int)) ∧ w'.cell? ⟨c, 4, none⟩ = some (.int .u64 (wd B 3 : Int)) := by
 obtain ⟨_, c1, c2, c3, c4, _⟩ := (h1.ext x).cells
 obtain ⟨d0, d1, d2, d3, d4, _⟩ := (h2.ext x).cells
 exact ⟨c1, c2, c3, c4, d0, d1, d2, d3, d4⟩
end Go.Proofs.YtjjnmefihdjglaaGreat
namespace Go.Proofs.YtjjnmefihdjglaaGreat
open Go.RowKit
def strip : Nat → Nat → Nat × Nat
 | N, 0 => (N, 0)
 | N, s + 1 => if N % 10 = 0 then strip (N / 10) s else (N, s + 1)
def decOk (N s : Nat) : Bool := decide ((strip N s).2 ≤ 18 ∧ (strip N s).1 ≤ 9223372036854775807)
def decMv (neg : Bool) (N s : Nat) : Int := if decOk N s then (if neg then -((strip N s).1 : Int) else ((strip N s).1 : Int)) else 0
def decSv (N s : Nat) : Int := if decOk N s then ((strip N s).2 : Int) else 0
theorem strip_zero : ∀ s, strip 0 s = (0, 0)
 | 0 => rfl
 | s + 1 => by unfold strip; rw [if_pos rfl]; exact strip_zero s
theorem strip_le : ∀ (s N : Nat), (strip N s).1 ≤ N ∧ (strip N s).2 ≤ s
 | 0, N => ⟨Nat.le_refl _, Nat.le_refl _⟩
 | s + 1, N => by
   unfold strip
   split
   ·have := strip_le s (N / 10)
    exact ⟨by omega, by omega⟩
   ·exact ⟨Nat.le_refl _, Nat.le_refl _⟩
set_option maxRecDepth 100000 in
theorem eql_wide (a b c d x y z t : Int) (w : World) : (Op.equalIn 10000 138 (.agg #[.int .u64 a, .int .u64 b, .int .u64 c, .int .u64 d]) (.agg #[.int .u64 x, .int .u64 y, .int .u64 z, .int .u64 t])).run Tryz.prog w = .ok (decide (a = x ∧ b = y ∧ c = z ∧ d = t)) w := by
 have hi0 : (Tryz.prog.info? 136).isSome = true := by kernel_rfl
 obtain ⟨i, hi⟩ := Option.isSome_iff_exists.1 hi0
 have hu : Tryz.prog.underlying 138 = some (.array 4 136) := by kernel_rfl
 have hu2 : Tryz.prog.underlying 136 = some (.int .u64) := by kernel_rfl
 have hc : Tryz.prog.cellsOf 136 = 1 := by kernel_rfl
 rw [run_equalIn_array w 9999 _ _ hu hi, hc, show List.range 4 = [0, 1, 2, 3] from rfl]
 simp [Op.eqItems, go_sem, run_equalIn_int, hu2]
 by_cases h1 : a = x <;> by_cases h2 : b = y <;> by_cases h3 : c = z <;> by_cases h4 : d = t <;> simp [h1, h2, h3, h4]
theorem eql_wide0 (N : Nat) (hN : N < W256) (w : World) : (Op.equalIn 10000 138 (.agg #[.int .u64 (wd N 0 : Int), .int .u64 (wd N 1 : Int), .int .u64 (wd N 2 : Int), .int .u64 (wd N 3 : Int)]) (.agg #[.int .u64 0, .int .u64 0, .int .u64 0, .int .u64 0])).run Tryz.prog w = .ok (decide (N = 0)) w := by
 rw [eql_wide]
 congr 1
 apply decide_eq_decide.2
 have hv := val4_wd N hN
 unfold val4 at hv
 constructor
 ·rintro ⟨h0, h1, h2, h3⟩; omega
 ·intro h; omega
theorem dec_keep {b : Nat} {n : Bool} {A : Nat} {s : Int} {w w' : World} (h1 : NumIn b n A s w) (x : Ext w w') :
  w'.cell? ⟨b, 1, none⟩ = some (.int .u64 (wd A 0 : Int)) ∧ w'.cell? ⟨b, 2, none⟩ = some (.int .u64 (wd A 1 : Int)) ∧ w'.cell? ⟨b, 3, none⟩ = some (.int .u64 (wd A 2 : Int)) ∧ w'.cell? ⟨b, 4, none⟩ = some (.int .u64 (wd A 3 : Int)) ∧ w'.cell? ⟨b, 5, none⟩ = some (.int .i64 s) := by
 obtain ⟨_, c1, c2, c3, c4, c5⟩ := (h1.ext x).cells
 exact ⟨c1, c2, c3, c4, c5⟩
def scaleOf (w : World) (b : Nat) : Nat := match w.cell? ⟨b, 5, none⟩ with | some v => (intOf v).toNat | none => 0
theorem scaleOf_num {b : Nat} {n : Bool} {A : Nat} {s : Int} {w : World} (h : NumIn b n A s w) : scaleOf w b = s.toNat := by
 unfold scaleOf; rw [h.cells.2.2.2.2.2]; rfl
theorem scale_lt {b : Nat} {n m : Bool} {A B : Nat} {s t : Int} {w w' : World} (h : NumIn b n A s w) (k : NumIn b m B t w') (l : s.toNat < t.toNat) : scaleOf w b < scaleOf w' b := by
 rw [scaleOf_num h, scaleOf_num k]; exact l
theorem numW_keep {b : Nat} {n : Bool} {A : Nat} {s : Int} {w w' : World} (h1 : NumIn b n A s w) (x : Ext w w') :
  w'.cell? ⟨b, 1, none⟩ = some (.int .u64 (wd A 0 : Int)) ∧ w'.cell? ⟨b, 2, none⟩ = some (.int .u64 (wd A 1 : Int)) ∧ w'.cell? ⟨b, 3, none⟩ = some (.int .u64 (wd A 2 : Int)) ∧ w'.cell? ⟨b, 4, none⟩ = some (.int .u64 (wd A 3 : Int)) := by
 obtain ⟨_, c1, c2, c3, c4, _⟩ := (h1.ext x).cells
 exact ⟨c1, c2, c3, c4⟩
end Go.Proofs.YtjjnmefihdjglaaGreat
namespace Go.Proofs.YtjjnmefihdjglaaGreat
open Go.RowKit
def cM (M S : Int) : Int := if goodB M S then M else 0
def cS (M S : Int) : Int := if goodB M S then S else 0
theorem cS_range (M S : Int) : 0 ≤ cS M S ∧ cS M S ≤ 18 := by
 unfold cS goodB
 split
 ·rename_i h; simp at h; omega
 ·omega
theorem cM_range (M S : Int) (h : I64 M) : -9223372036854775807 ≤ cM M S ∧ cM M S ≤ 9223372036854775807 := by
 unfold I64 at h
 unfold cM goodB
 split
 ·rename_i h; simp at h; omega
 ·omega
end Go.Proofs.YtjjnmefihdjglaaGreat
namespace Go.Proofs.YtjjnmefihdjglaaGreat
open Go.RowKit
def scN (M S : Int) (s : Int) : Nat := M.natAbs * 10 ^ (s - S).toNat
theorem scN_lt (M S s : Int) (hM : -9223372036854775807 ≤ M ∧ M ≤ 9223372036854775807) (hS : 0 ≤ S) (hs : s ≤ 18) : scN M S s < 10000000000000000000000000000000000000 := by
 unfold scN
 have h1 : 10 ^ (s - S).toNat ≤ 10 ^ 18 := Nat.pow_le_pow_right (by omega) (by omega)
 have h2 : M.natAbs ≤ 9223372036854775807 := by omega
 have h3 := Nat.mul_le_mul h2 h1
 have h4 : 9223372036854775807 * 10 ^ 18 < 10000000000000000000000000000000000000 := by decide
 omega
def cmpD (m1 s1 m2 s2 : Int) : Int := ncmp (decide (m1 < 0)) (scN m1 s1 (max s1 s2)) (decide (m2 < 0)) (scN m2 s2 (max s1 s2))
theorem numberOf_sc (M S s : Int) (w : World) (hM : -9223372036854775807 ≤ M ∧ M ≤ 9223372036854775807) (hS : 0 ≤ S) (h : S ≤ s) (hs : s ≤ 18) :
  Calls Tryz.prog 120 #[.agg #[.int .i64 M, .int .i64 S], .int .i64 s] w fun e w' => e = .returned (.agg #[.bool (decide (M < 0)), .int .u64 (wd (scN M S s) 0 : Int), .int .u64 (wd (scN M S s) 1 : Int), .int .u64 (wd (scN M S s) 2 : Int), .int .u64 (wd (scN M S s) 3 : Int), .int .i64 s]) ∧ Ext w w' :=
 numberOf_any M S s (s - S).toNat w ⟨by omega, by omega⟩ (by omega) (by omega) (by have := scN_lt M S s hM hS hs; unfold scN at this; unfold W256; omega)
theorem cmp_keep {b c : Nat} {m s n t : Int} {w w' : World} (h1 : DecIn b m s w) (h2 : DecIn c n t w) (x : Ext w w') :
  w'.cell? ⟨b, 0, none⟩ = some (.int .i64 m) ∧ w'.cell? ⟨b, 1, none⟩ = some (.int .i64 s) ∧ w'.cell? ⟨c, 0, none⟩ = some (.int .i64 n) ∧ w'.cell? ⟨c, 1, none⟩ = some (.int .i64 t) :=
 ⟨(h1.ext x).cells.1, (h1.ext x).cells.2, (h2.ext x).cells.1, (h2.ext x).cells.2⟩
def TwoIn (w : World) (b c : Nat) (m s n t : Int) (w' : World) : Prop := Ext w w' ∧ DecIn b m s w' ∧ DecIn c n t w'
theorem two_keep {w : World} {b c : Nat} {m s n t : Int} {w0 : World} (h : TwoIn w b c m s n t w0) {k : Nat} {args : Array Value} {v : Value} (C : Calls Tryz.prog k args w0 fun e w' => e = .returned v ∧ Ext w0 w') :
  Calls Tryz.prog k args w0 fun e w' => e = .returned v ∧ TwoIn w b c m s n t w' ∧ w'.cell? ⟨b, 0, none⟩ = some (.int .i64 m) ∧ w'.cell? ⟨b, 1, none⟩ = some (.int .i64 s) ∧ w'.cell? ⟨c, 0, none⟩ = some (.int .i64 n) ∧ w'.cell? ⟨c, 1, none⟩ = some (.int .i64 t) ∧ w'.frozen? ⟨b, 0, none⟩ = false ∧ w'.frozen? ⟨b, 1, none⟩ = false ∧ w'.frozen? ⟨c, 0, none⟩ = false ∧ w'.frozen? ⟨c, 1, none⟩ = false :=
 C.mono (fun _ _ ⟨he, x⟩ => ⟨he, ⟨h.1.trans x, h.2.1.ext x, h.2.2.ext x⟩, (h.2.1.ext x).cells.1, (h.2.1.ext x).cells.2, (h.2.2.ext x).cells.1, (h.2.2.ext x).cells.2, (h.2.1.ext x).free.1, (h.2.1.ext x).free.2, (h.2.2.ext x).free.1, (h.2.2.ext x).free.2⟩)
set_option maxHeartbeats 20000000 in
set_option maxRecDepth 100000 in
theorem Compare_any (M S M' S' : Int) (w : World) (hM : I64 M) (hS : I64 S) (hM' : I64 M') (hS' : I64 S') :
  Calls Tryz.prog 88 #[decV M S, decV M' S'] w fun e w' => e = .returned (.int .i64 (cmpD (cM M S) (cS M S) (cM M' S') (cS M' S'))) ∧ Ext w w' := by
 have C : ∀ w, Calls Tryz.prog 119 #[.agg #[.int .i64 M, .int .i64 S]] w fun e w' => e = .returned (.agg #[.int .i64 (cM M S), .int .i64 (cS M S)]) ∧ Ext w w' := fun w => counted_any M S w hM hS
 have C' : ∀ w, Calls Tryz.prog 119 #[.agg #[.int .i64 M', .int .i64 S']] w fun e w' => e = .returned (.agg #[.int .i64 (cM M' S'), .int .i64 (cS M' S')]) ∧ Ext w w' := fun w => counted_any M' S' w hM' hS'
 have hm1 := cM_range M S hM
 have hm2 := cM_range M' S' hM'
 have hs1 := cS_range M S
 have hs2 := cS_range M' S'
 generalize cM M S = m1 at *
 generalize cS M S = s1 at *
 generalize cM M' S' = m2 at *
 generalize cS M' S' = s2 at *
 clear hM hS hM' hS'
 obtain ⟨s, hs⟩ : ∃ s, s = max s1 s2 := ⟨_, rfl⟩
 have D1 := fun w => numberOf_sc m1 s1 s w hm1 hs1.1 (by omega) (by omega)
 have D2 := fun w => numberOf_sc m2 s2 s w hm2 hs2.1 (by omega) (by omega)
 have l1 := scN_lt m1 s1 s hm1 hs1.1 (by omega)
 have l2 := scN_lt m2 s2 s hm2 hs2.1 (by omega)
 unfold cmpD decV
 rw [← hs]
 generalize scN m1 s1 s = N1 at *
 generalize scN m2 s2 s = N2 at *
 have D3 : ∀ w, Calls Tryz.prog 121 #[.agg #[.bool (decide (m1 < 0)), .int .u64 (wd N1 0 : Int), .int .u64 (wd N1 1 : Int), .int .u64 (wd N1 2 : Int), .int .u64 (wd N1 3 : Int), .int .i64 s], .agg #[.bool (decide (m2 < 0)), .int .u64 (wd N2 0 : Int), .int .u64 (wd N2 1 : Int), .int .u64 (wd N2 2 : Int), .int .u64 (wd N2 3 : Int), .int .i64 s]] w fun e w' => e = .returned (.int .i64 (ncmp (decide (m1 < 0)) N1 (decide (m2 < 0)) N2)) ∧ Ext w w' := fun w => ncompare_any _ _ N1 N2 s w (by unfold W256; omega) (by unfold W256; omega)
 generalize ncmp (decide (m1 < 0)) N1 (decide (m2 < 0)) N2 = r at *
 generalize decide (m1 < 0) = n1 at *
 generalize decide (m2 < 0) = n2 at *
 clear l1 l2 hm1 hm2 hs1 hs2
 subst hs
 have hx : Ext w ((w.alloc (.cells #[.int .i64 M, .int .i64 S] 38)).alloc (.cells #[.int .i64 M', .int .i64 S'] 38)) := ((Ext.refl _).alloc _).alloc _
 have h1 : DecIn w.heap.size M S ((w.alloc (.cells #[.int .i64 M, .int .i64 S] 38)).alloc (.cells #[.int .i64 M', .int .i64 S'] 38)) := heap_at2a _ _ _
 have h2 : DecIn (w.heap.size + 1) M' S' ((w.alloc (.cells #[.int .i64 M, .int .i64 S] 38)).alloc (.cells #[.int .i64 M', .int .i64 S'] 38)) := heap_at2b _ _ _
 go_enter Tryz.func88, Tryz.ntmps88
 go_wp2_with fail
 generalize (w.alloc (.cells #[.int .i64 M, .int .i64 S] 38)).alloc (.cells #[.int .i64 M', .int .i64 S'] 38) = W at *
 obtain ⟨c0, c1⟩ := h1.cells
 obtain ⟨d0, d1⟩ := h2.cells
 have hP : TwoIn w w.heap.size (w.heap.size + 1) M S M' S' W.drew := ⟨hx.drew, h1.ext (Ext.refl W).drew, h2.ext (Ext.refl W).drew⟩
 have E1 := fun w0 (h : TwoIn w w.heap.size (w.heap.size + 1) M S M' S' w0) => two_keep h (C w0)
 have E2 := fun w0 (h : TwoIn w w.heap.size (w.heap.size + 1) M S M' S' w0) => two_keep h (C' w0)
 clear C C'
 go_region_with (first
  | (go_at_call 119; (with_reducible refine (E1 _ ?h).mono ?_); (case h => first | exact H | exact hP); rintro e wz ⟨rfl, H, p0, p1, q0, q1, f0, f1, g0, g1⟩)
  | (go_at_call 119; (with_reducible refine (E2 _ ?h).mono ?_); (case h => first | exact H | exact hP); rintro e wz ⟨rfl, H, p0, p1, q0, q1, f0, f1, g0, g1⟩))
 all_goals
  have hxz := ext_setDec (ext_setDec H.1 (Nat.le_refl _) m1 s1) (Nat.le_succ _) m2 s2
  have K1 : DecIn w.heap.size m1 s1 (setDec (setDec wz w.heap.size m1 s1) (w.heap.size + 1) m2 s2) := (heap_setDec _ _ _ _ _ (by omega)).trans (H.2.1.stored m1 s1)
  have K2 : DecIn (w.heap.size + 1) m2 s2 (setDec (setDec wz w.heap.size m1 s1) (w.heap.size + 1) m2 s2) := DecIn.stored (M := M') (S := S') ((heap_setDec _ _ _ _ _ (by omega)).trans H.2.2) m2 s2
  unfold setDec at hxz K1 K2
  generalize ((((wz.setCell ⟨w.heap.size, 0, none⟩ (.int .i64 m1)).setCell ⟨w.heap.size, 1, none⟩ (.int .i64 s1)).setCell ⟨w.heap.size + 1, 0, none⟩ (.int .i64 m2)).setCell ⟨w.heap.size + 1, 1, none⟩ (.int .i64 s2)) = V at *
  clear p0 p1 q0 q1 f0 f1 g0 g1 H c0 c1 d0 d1 h1 h2 hx hP
  obtain ⟨k0, k1⟩ := K1.cells
  obtain ⟨l0, l1⟩ := K2.cells
  go_wp2_with fail
  have hP : TwoIn w w.heap.size (w.heap.size + 1) m1 s1 m2 s2 V.drew := ⟨hxz.drew, K1.ext (Ext.refl V).drew, K2.ext (Ext.refl V).drew⟩
  have F1 := fun w0 (h : TwoIn w w.heap.size (w.heap.size + 1) m1 s1 m2 s2 w0) => two_keep h (D1 w0)
  have F2 := fun w0 (h : TwoIn w w.heap.size (w.heap.size + 1) m1 s1 m2 s2 w0) => two_keep h (D2 w0)
  have F3 := fun w0 (h : TwoIn w w.heap.size (w.heap.size + 1) m1 s1 m2 s2 w0) => two_keep h (D3 w0)
  clear D1 D2 D3 E1 E2 K1 K2
  go_region_held3 (fun w' => w'.cell? ⟨w.heap.size, 0, none⟩ = some (.int .i64 m1) ∧ w'.cell? ⟨w.heap.size, 1, none⟩ = some (.int .i64 s1) ∧ w'.cell? ⟨w.heap.size + 1, 0, none⟩ = some (.int .i64 m2) ∧ w'.cell? ⟨w.heap.size + 1, 1, none⟩ = some (.int .i64 s2)) (first | exact ⟨p0, p1, q0, q1⟩ | exact ⟨k0, k1, l0, l1⟩ | go_keep) (first
   | (go_at_call 120; (with_reducible refine (F1 _ ?h).mono ?_); (case h => first | exact H | exact hP); rintro e wy ⟨rfl, H, p0, p1, q0, q1, -, -, -, -⟩)
   | (go_at_call 120; (with_reducible refine (F2 _ ?h).mono ?_); (case h => first | exact H | exact hP); rintro e wy ⟨rfl, H, p0, p1, q0, q1, -, -, -, -⟩)
   | (go_at_call 121; (with_reducible refine (F3 _ ?h).mono ?_); (case h => first | exact H | exact hP); rintro e wy ⟨rfl, H, p0, p1, q0, q1, -, -, -, -⟩))
  all_goals
   go_wp2_with fail
   go_ret
   exact ⟨rfl, H.1⟩
end Go.Proofs.YtjjnmefihdjglaaGreat
namespace Go.Proofs.YtjjnmefihdjglaaGreat
open Go.RowKit
def addN (m1 s1 m2 s2 : Int) : Nat := nplusN (decide (m1 < 0)) (scN m1 s1 (max s1 s2)) (decide (m2 < 0)) (scN m2 s2 (max s1 s2))
def addB (m1 s1 m2 s2 : Int) : Bool := nplusS (decide (m1 < 0)) (scN m1 s1 (max s1 s2)) (decide (m2 < 0)) (scN m2 s2 (max s1 s2))
def addM (m1 s1 m2 s2 : Int) : Int := decMv (addB m1 s1 m2 s2) (addN m1 s1 m2 s2) (max s1 s2).toNat
def addS (m1 s1 m2 s2 : Int) : Int := decSv (addN m1 s1 m2 s2) (max s1 s2).toNat
def addOk (m1 s1 m2 s2 : Int) : Bool := decOk (addN m1 s1 m2 s2) (max s1 s2).toNat
def sumL : Int → Int → List (Int × Int) → (Int × Int) × Bool
 | m, s, [] => ((m, s), true)
 | m, s, d :: l => if goodB d.1 d.2 then (if addOk m s d.1 d.2 then sumL (addM m s d.1 d.2) (addS m s d.1 d.2) l else ((0, 0), false)) else ((0, 0), false)
theorem sumL_cons (m s : Int) (d : Int × Int) (l : List (Int × Int)) : sumL m s (d :: l) = if goodB d.1 d.2 then (if addOk m s d.1 d.2 then sumL (addM m s d.1 d.2) (addS m s d.1 d.2) l else ((0, 0), false)) else ((0, 0), false) := rfl
theorem decMv_range (neg : Bool) (N s : Nat) : -9223372036854775807 ≤ decMv neg N s ∧ decMv neg N s ≤ 9223372036854775807 := by
 unfold decMv decOk
 split
 ·rename_i h; simp at h; cases neg <;> simp <;> omega
 ·omega
theorem decSv_range (N s : Nat) : 0 ≤ decSv N s ∧ decSv N s ≤ 18 := by
 unfold decSv decOk
 split
 ·rename_i h; simp at h; omega
 ·omega
def DecsAt (b o : Nat) (l : List (Int × Int)) (w : World) : Prop := ∀ i (h : i < l.length), w.cell? ⟨b, o + i * 2, none⟩ = some (.int .i64 l[i].1) ∧ w.cell? ⟨b, o + i * 2 + 1, none⟩ = some (.int .i64 l[i].2)
theorem TwoIn.alloc {w : World} {b c : Nat} {m s n t : Int} {w0 : World} (h : TwoIn w b c m s n t w0) (o : Obj) : TwoIn w b c m s n t (w0.alloc o) := ⟨h.1.alloc o, h.2.1.ext ((Ext.refl _).alloc o), h.2.2.ext ((Ext.refl _).alloc o)⟩
theorem TwoIn.alloc_drew {w : World} {b c : Nat} {m s n t : Int} {w0 : World} (h : TwoIn w b c m s n t w0) {o : Obj} : TwoIn w b c m s n t (w0.alloc o).drew := ⟨(h.1.alloc o).drew, h.2.1.ext ((Ext.refl _).alloc o).drew, h.2.2.ext ((Ext.refl _).alloc o).drew⟩
theorem alloc_dec (X : World) : DecIn X.heap.size 0 0 (X.alloc (.cells #[.int .i64 0, .int .i64 0] 38)) := heap_last _ _
theorem two_keepx {w : World} {b c : Nat} {m s n t : Int} {w0 : World} (h : TwoIn w b c m s n t w0) {k : Nat} {args : Array Value} {v : Value} (C : Calls Tryz.prog k args w0 fun e w' => e = .returned v ∧ Ext w0 w') :
  Calls Tryz.prog k args w0 fun e w' => e = .returned v ∧ Ext w0 w' ∧ TwoIn w b c m s n t w' ∧ w'.cell? ⟨b, 0, none⟩ = some (.int .i64 m) ∧ w'.cell? ⟨b, 1, none⟩ = some (.int .i64 s) ∧ w'.cell? ⟨c, 0, none⟩ = some (.int .i64 n) ∧ w'.cell? ⟨c, 1, none⟩ = some (.int .i64 t) ∧ True :=
 C.mono (fun _ _ ⟨he, x⟩ => ⟨he, x, ⟨h.1.trans x, h.2.1.ext x, h.2.2.ext x⟩, (h.2.1.ext x).cells.1, (h.2.1.ext x).cells.2, (h.2.2.ext x).cells.1, (h.2.2.ext x).cells.2, trivial⟩)
end Go.Proofs.YtjjnmefihdjglaaGreat
namespace Go.Proofs.YtjjnmefihdjglaaGreat
open Go.RowKit
theorem abs_ext (m : Int) (w : World) (h : I64 m) :
  Calls Tryz.prog 133 #[.int .i64 m] w fun e w' => e = .returned (.int .u64 (m.natAbs : Int)) ∧ Ext w w' :=
 (abs_any m w h).mono (fun _ _ ⟨he, hw⟩ => ⟨he, hw ▸ Ext.refl _⟩)
def mulOk (m1 s1 m2 s2 : Int) : Bool := goodB m1 s1 && (goodB m2 s2 && decOk (m1.natAbs * m2.natAbs) (s1 + s2).toNat)
def mulM (m1 s1 m2 s2 : Int) : Int := if goodB m1 s1 && goodB m2 s2 then decMv (decide (m1 < 0) != decide (m2 < 0)) (m1.natAbs * m2.natAbs) (s1 + s2).toNat else 0
def mulS (m1 s1 m2 s2 : Int) : Int := if goodB m1 s1 && goodB m2 s2 then decSv (m1.natAbs * m2.natAbs) (s1 + s2).toNat else 0
theorem good_range {M S : Int} (h : goodB M S = true) : 0 ≤ S ∧ S ≤ 18 ∧ M ≠ -9223372036854775808 := by unfold goodB at h; simp at h; omega
end Go.Proofs.YtjjnmefihdjglaaGreat
namespace Go.Proofs.YtjjnmefihdjglaaGreat
open Go.RowKit
def scIn (M S s : Int) : Bool := goodB M S && (decide (S ≤ s) && decide (s ≤ 18))
def scOk (M S s : Int) : Bool := scIn M S s && decOk (scN M S s) 0
def scM (M S s : Int) : Int := if scIn M S s then decMv (decide (M < 0)) (scN M S s) 0 else 0
end Go.Proofs.YtjjnmefihdjglaaGreat
namespace Go.Proofs.YtjjnmefihdjglaaGreat
open Go.RowKit
def Tri (w : World) (m1 s1 m2 s2 : Int) (W : World) : Prop := Ext w W ∧ DecIn w.heap.size m1 s1 W ∧ DecIn (w.heap.size + 1) m2 s2 W ∧ DecIn (w.heap.size + 2) 0 0 W
theorem Tri.setWide {w : World} {m1 s1 m2 s2 : Int} {W : World} (h : Tri w m1 s1 m2 s2 W) {b : Nat} (hb : w.heap.size + 2 < b) (N : Nat) : Tri w m1 s1 m2 s2 (setWide W b N) :=
 ⟨ext_setWide h.1 (by omega) N, (heap_setWide _ _ _ _ (by omega)).trans h.2.1, (heap_setWide _ _ _ _ (by omega)).trans h.2.2.1, (heap_setWide _ _ _ _ (by omega)).trans h.2.2.2⟩
theorem Tri.ext {w : World} {m1 s1 m2 s2 : Int} {W W' : World} (h : Tri w m1 s1 m2 s2 W) (x : Ext W W') : Tri w m1 s1 m2 s2 W' := ⟨h.1.trans x, h.2.1.ext x, h.2.2.1.ext x, h.2.2.2.ext x⟩
def ovP (T k2 k5 : Nat) : Nat := T * 2 ^ (max k2 k5 - k2) * 5 ^ (max k2 k5 - k5)
def ovS (k2 k5 : Nat) (s1 s2 : Int) : Int := (max k2 k5 : Nat) + (s1 - s2)
def ovN (T k2 k5 : Nat) (s1 s2 : Int) : Nat := if ovS k2 k5 s1 s2 < 0 then ovP T k2 k5 * 10 ^ (-ovS k2 k5 s1 s2).toNat else ovP T k2 k5
def ovE (m1 m2 s1 s2 : Int) (m k2 k5 : Nat) : Ending :=
 if m = 1 then .returned (.tuple #[decV (decMv (decide (m1 < 0) != decide (m2 < 0)) (ovN (m1.natAbs / Nat.gcd m1.natAbs m2.natAbs) k2 k5 s1 s2) (ovS k2 k5 s1 s2).toNat) (decSv (ovN (m1.natAbs / Nat.gcd m1.natAbs m2.natAbs) k2 k5 s1 s2) (ovS k2 k5 s1 s2).toNat), .bool (decOk (ovN (m1.natAbs / Nat.gcd m1.natAbs m2.natAbs) k2 k5 s1 s2) (ovS k2 k5 s1 s2).toNat)])
 else .returned (.tuple #[decV 0 0, .bool false])
theorem mul_pow_lt {T B k C : Nat} (b : Nat) (hb : 0 < b) (hT : T < B) (hk : k ≤ C) : T * b ^ k < B * b ^ C :=
 Nat.lt_of_le_of_lt (Nat.mul_le_mul_left T (Nat.pow_le_pow_right hb hk)) (Nat.mul_lt_mul_of_pos_right hT (Nat.pow_pos hb))
theorem ovP_lt {T k2 k5 : Nat} (hT : T < 9223372036854775808) (h2 : k2 < 64) (h5 : k5 < 64) : T * 2 ^ (max k2 k5 - k2) < 9223372036854775808 * 9223372036854775808 ∧ ovP T k2 k5 < 1000000000000000000000000000000000000000000000000000000000000000000 := by
 have hA := mul_pow_lt (T := T) 2 (by decide) hT (show max k2 k5 - k2 ≤ 63 by omega)
 have e1 : (9223372036854775808 : Nat) * 2 ^ 63 = 9223372036854775808 * 9223372036854775808 := by decide
 have e2 : (9223372036854775808 : Nat) * 5 ^ 63 < 1000000000000000000000000000000000000000000000000000000000000000000 := by decide
 refine ⟨by omega, ?_⟩
 unfold ovP
 by_cases h : k2 ≤ k5
 ·rw [show max k2 k5 - k5 = 0 from by omega, Nat.pow_zero, Nat.mul_one]
  omega
 ·rw [show max k2 k5 - k2 = 0 from by omega, Nat.pow_zero, Nat.mul_one]
  have hB := mul_pow_lt (T := T) 5 (by decide) hT (show max k2 k5 - k5 ≤ 63 by omega)
  omega
theorem ovP_lt2 {T k2 k5 d : Nat} (hT : T < 9223372036854775808) (h2 : max k2 k5 ≤ 18) (hd : d ≤ 18) : ovP T k2 k5 * 10 ^ d < W256 := by
 have hA := mul_pow_lt (T := T) 2 (by decide) hT (show max k2 k5 - k2 ≤ 18 by omega)
 have hB := mul_pow_lt 5 (by decide) hA (show max k2 k5 - k5 ≤ 18 by omega)
 have hC := mul_pow_lt 10 (by decide) hB hd
 have e1 : (9223372036854775808 : Nat) * 2 ^ 18 * 5 ^ 18 * 10 ^ 18 < W256 := by decide
 unfold ovP
 omega
end Go.Proofs.YtjjnmefihdjglaaGreat
namespace Go.Proofs.YtjjnmefihdjglaaGreat
open Go.RowKit
end Go.Proofs.YtjjnmefihdjglaaGreat
