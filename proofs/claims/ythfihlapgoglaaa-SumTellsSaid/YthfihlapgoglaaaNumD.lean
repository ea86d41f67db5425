/- The walk of number.plus. -/
import Derived.Test.YthfihlapgoglaaaNumC
import Derived.Deep.RegionWith
namespace Go.Proofs.Ythfihlapgoglaaa
open Go.RowKit

/-- The words of a number stored. -/
def setNumW (w : World) (b N : Nat) : World := (((w.setCell ⟨b, 1, none⟩ (.int .u64 (wd N 0 : Int))).setCell ⟨b, 2, none⟩ (.int .u64 (wd N 1 : Int))).setCell ⟨b, 3, none⟩ (.int .u64 (wd N 2 : Int))).setCell ⟨b, 4, none⟩ (.int .u64 (wd N 3 : Int))
/-- A number stored. -/
def setNum (w : World) (b : Nat) (n : Bool) (N : Nat) (s : Int) : World := (setNumW (w.setCell ⟨b, 0, none⟩ (.bool n)) b N).setCell ⟨b, 5, none⟩ (.int .i64 s)
theorem NumIn.storedW {b : Nat} {n : Bool} {A : Nat} {s : Int} {w : World} (h : NumIn b n A s w) (N : Nat) : NumIn b n N s (setNumW w b N) := by
  unfold NumIn at *
  simp [setNumW, World.setCell, Array.getElem?_modify, h]
theorem NumIn.stored {b : Nat} {n : Bool} {A : Nat} {s : Int} {w : World} (h : NumIn b n A s w) (m : Bool) (N : Nat) (t : Int) : NumIn b m N t (setNum w b m N t) := by
  unfold NumIn at *
  simp [setNum, setNumW, World.setCell, Array.getElem?_modify, h]
theorem NumIn.storedB {b : Nat} {n : Bool} {A : Nat} {s : Int} {w : World} (h : NumIn b n A s w) (m : Bool) : NumIn b m A s (w.setCell ⟨b, 0, none⟩ (.bool m)) := by
  unfold NumIn at *
  simp [World.setCell, Array.getElem?_modify, h]
theorem NumIn.storedS {b : Nat} {n : Bool} {A : Nat} {s : Int} {w : World} (h : NumIn b n A s w) (t : Int) : NumIn b n A t (w.setCell ⟨b, 5, none⟩ (.int .i64 t)) := by
  unfold NumIn at *
  simp [World.setCell, Array.getElem?_modify, h]
theorem heap_setNumW (w : World) (b N k : Nat) (h : k ≠ b) : (setNumW w b N).heap[k]? = w.heap[k]? := by
  unfold setNumW
  rw [Below.heap_setCell _ _ _ _ h, Below.heap_setCell _ _ _ _ h, Below.heap_setCell _ _ _ _ h, Below.heap_setCell _ _ _ _ h]
theorem ext_setNumW {a w : World} (h : Ext a w) {b : Nat} (hb : a.heap.size ≤ b) (N : Nat) : Ext a (setNumW w b N) :=
  ext_setCell (ext_setCell (ext_setCell (ext_setCell h hb _) hb _) hb _) hb _
theorem ext_setNum {a w : World} (h : Ext a w) {b : Nat} (hb : a.heap.size ≤ b) (n : Bool) (N : Nat) (s : Int) : Ext a (setNum w b n N s) :=
  ext_setCell (ext_setNumW (ext_setCell h hb _) hb _) hb _

/-- The sum of two numbers with a sign. -/
def nplusN (n : Bool) (A : Nat) (m : Bool) (B : Nat) : Nat := if n = m then A + B else if B ≤ A then A - B else B - A
def nplusS (n : Bool) (A : Nat) (m : Bool) (B : Nat) : Bool := if n = m then n else if B ≤ A then n else m

theorem plus_keep {b c : Nat} {n m : Bool} {A B : Nat} {s t : Int} {w w' : World} (h1 : NumIn b n A s w) (h2 : NumIn c m B t w) (x : Ext w w') :
    w'.cell? ⟨b, 1, none⟩ = some (.int .u64 (wd A 0 : Int)) ∧ w'.cell? ⟨b, 2, none⟩ = some (.int .u64 (wd A 1 : Int)) ∧ w'.cell? ⟨b, 3, none⟩ = some (.int .u64 (wd A 2 : Int)) ∧ w'.cell? ⟨b, 4, none⟩ = some (.int .u64 (wd A 3 : Int)) ∧ w'.cell? ⟨c, 0, none⟩ = some (.bool m) ∧ w'.cell? ⟨c, 1, none⟩ = some (.int .u64 (wd B 0 : Int)) ∧ w'.cell? ⟨c, 2, none⟩ = some (.int .u64 (wd B 1 : Int)) ∧ w'.cell? ⟨c, 3, none⟩ = some (.int .u64 (wd B 2 : Int)) ∧ w'.cell? ⟨c, 4, none⟩ = some (.int .u64 (wd B 3 : Int)) := by
  obtain ⟨_, c1, c2, c3, c4, _⟩ := (h1.ext x).cells
  obtain ⟨d0, d1, d2, d3, d4, _⟩ := (h2.ext x).cells
  exact ⟨c1, c2, c3, c4, d0, d1, d2, d3, d4⟩

set_option maxHeartbeats 2000000 in
set_option maxRecDepth 100000 in
theorem nplus_ft (A B : Nat) (s : Int) (w : World) (hA : A < W256) (hB : B < W256) :
    Calls Try.prog 25 #[numV false A s, numV true B s] w fun e w' => e = .returned (numV (nplusS false A true B) (nplusN false A true B) s) ∧ Ext w w' := by
  have z0 : wd 0 0 = 0 := by decide
  have z1 : wd 0 1 = 0 := by decide
  have z2 : wd 0 2 = 0 := by decide
  have z3 : wd 0 3 = 0 := by decide
  have hx : Ext w (((w.alloc (.cells #[.bool false, .int .u64 (wd A 0 : Int), .int .u64 (wd A 1 : Int), .int .u64 (wd A 2 : Int), .int .u64 (wd A 3 : Int), .int .i64 s] 46)).alloc (.cells #[.bool true, .int .u64 (wd B 0 : Int), .int .u64 (wd B 1 : Int), .int .u64 (wd B 2 : Int), .int .u64 (wd B 3 : Int), .int .i64 s] 46)).alloc (.cells #[.bool false, .int .u64 0, .int .u64 0, .int .u64 0, .int .u64 0, .int .i64 0] 46)) := (((Ext.refl _).alloc _).alloc _).alloc _
  have h1 : NumIn w.heap.size false A s (((w.alloc (.cells #[.bool false, .int .u64 (wd A 0 : Int), .int .u64 (wd A 1 : Int), .int .u64 (wd A 2 : Int), .int .u64 (wd A 3 : Int), .int .i64 s] 46)).alloc (.cells #[.bool true, .int .u64 (wd B 0 : Int), .int .u64 (wd B 1 : Int), .int .u64 (wd B 2 : Int), .int .u64 (wd B 3 : Int), .int .i64 s] 46)).alloc (.cells #[.bool false, .int .u64 0, .int .u64 0, .int .u64 0, .int .u64 0, .int .i64 0] 46)) := heap_at3a _ _ _ _
  have h2 : NumIn (w.heap.size + 1) true B s (((w.alloc (.cells #[.bool false, .int .u64 (wd A 0 : Int), .int .u64 (wd A 1 : Int), .int .u64 (wd A 2 : Int), .int .u64 (wd A 3 : Int), .int .i64 s] 46)).alloc (.cells #[.bool true, .int .u64 (wd B 0 : Int), .int .u64 (wd B 1 : Int), .int .u64 (wd B 2 : Int), .int .u64 (wd B 3 : Int), .int .i64 s] 46)).alloc (.cells #[.bool false, .int .u64 0, .int .u64 0, .int .u64 0, .int .u64 0, .int .i64 0] 46)) := heap_at3b _ _ _ _
  have h3 : NumIn (w.heap.size + 2) false 0 0 (((w.alloc (.cells #[.bool false, .int .u64 (wd A 0 : Int), .int .u64 (wd A 1 : Int), .int .u64 (wd A 2 : Int), .int .u64 (wd A 3 : Int), .int .i64 s] 46)).alloc (.cells #[.bool true, .int .u64 (wd B 0 : Int), .int .u64 (wd B 1 : Int), .int .u64 (wd B 2 : Int), .int .u64 (wd B 3 : Int), .int .i64 s] 46)).alloc (.cells #[.bool false, .int .u64 0, .int .u64 0, .int .u64 0, .int .u64 0, .int .i64 0] 46)) := by
    unfold NumIn; rw [z0, z1, z2, z3]; exact heap_at3c _ _ _ _
  have C0 : ∀ w, Calls Try.prog 45 #[.agg #[.int .u64 (wd A 0 : Int), .int .u64 (wd A 1 : Int), .int .u64 (wd A 2 : Int), .int .u64 (wd A 3 : Int)], .agg #[.int .u64 (wd B 0 : Int), .int .u64 (wd B 1 : Int), .int .u64 (wd B 2 : Int), .int .u64 (wd B 3 : Int)]] w fun e w' => e = .returned (.int .i64 (cmpN A B)) ∧ Ext w w' := fun w => compare_any A B w hA hB
  by_cases hBA : B ≤ A
  · have hN : Hid (nplusN false A true B = A - B) := (if_neg (by decide)).trans (if_pos hBA)
    have hS : Hid (nplusS false A true B = false) := (if_neg (by decide)).trans (if_pos hBA)
    have C : ∀ w, Calls Try.prog 46 #[.agg #[.int .u64 (wd A 0 : Int), .int .u64 (wd A 1 : Int), .int .u64 (wd A 2 : Int), .int .u64 (wd A 3 : Int)], .agg #[.int .u64 (wd B 0 : Int), .int .u64 (wd B 1 : Int), .int .u64 (wd B 2 : Int), .int .u64 (wd B 3 : Int)]] w fun e w' => e = .returned (.agg #[.int .u64 (wd (A - B) 0 : Int), .int .u64 (wd (A - B) 1 : Int), .int .u64 (wd (A - B) 2 : Int), .int .u64 (wd (A - B) 3 : Int)]) ∧ Ext w w' := fun w => minus_any A B w hA hB hBA
    have hc : cmpN A B = 0 ∨ cmpN A B = 1 := by unfold cmpN; rw [if_neg (by omega)]; by_cases h : A > B <;> simp [h]
    have hcb : binOp .geq 3 (.int .i64 (cmpN A B)) (.int .i64 0) = pure (.bool true) := by
      rcases hc with h | h <;> (rw [h]; rfl)
    rw [hN.out, hS.out]
    clear hA hB z0 z1 z2 z3 hBA hc
    unfold numV
    generalize A - B = N at *
    generalize cmpN A B = c at *
    go_enter Try.func25, Try.ntmps25
    go_wp2_with fail
    generalize (((w.alloc (.cells #[.bool false, .int .u64 (wd A 0 : Int), .int .u64 (wd A 1 : Int), .int .u64 (wd A 2 : Int), .int .u64 (wd A 3 : Int), .int .i64 s] 46)).alloc (.cells #[.bool true, .int .u64 (wd B 0 : Int), .int .u64 (wd B 1 : Int), .int .u64 (wd B 2 : Int), .int .u64 (wd B 3 : Int), .int .i64 s] 46)).alloc (.cells #[.bool false, .int .u64 0, .int .u64 0, .int .u64 0, .int .u64 0, .int .i64 0] 46)) = W at *
    refine (C0 _).mono ?_
    rintro e w0 ⟨rfl, x0⟩
    replace h1 := h1.ext x0
    replace h2 := h2.ext x0
    obtain ⟨c0, c1, c2, c3, c4, c5⟩ := h1.cells
    obtain ⟨d0, d1, d2, d3, d4, d5⟩ := h2.cells
    go_wp2_with fail
    refine (C _).mono ?_
    rintro e w1 ⟨rfl, x1⟩
    clear c0 c1 c2 c3 c4 c5 d0 d1 d2 d3 d4 d5
    replace h1 := h1.ext x1
    replace h3 := (h3.ext x0).ext x1
    obtain ⟨c0, c1, c2, c3, c4, c5⟩ := h1.cells
    obtain ⟨f0, f1, f2, f3, f4, f5⟩ := h1.free
    obtain ⟨g0, g1, g2, g3, g4, g5⟩ := h3.free
    obtain ⟨d0, d1, d2, d3, d4, d5⟩ := h3.cells
    clear h2
    go_wp2_with fail
    refine bodyPost_ret (v := numV false N s) ?_ rfl ⟨rfl, ext_setNum (ext_setNumW ((hx.trans x0).trans x1) (Nat.le_refl _) N) (by omega) false N s⟩
    have k3 : NumIn (w.heap.size + 2) false 0 0 (setNumW w1 w.heap.size N) := (heap_setNumW _ _ _ _ (by omega)).trans h3
    obtain ⟨e0, e1, e2, e3, e4, e5⟩ := (k3.stored false N s).cells
    change (results Try.f25 _).run Try.prog (setNum (setNumW w1 w.heap.size N) (w.heap.size + 2) false N s) = .ok _ (setNum (setNumW w1 w.heap.size N) (w.heap.size + 2) false N s)
    generalize setNum (setNumW w1 w.heap.size N) (w.heap.size + 2) false N s = W' at *
    simp [results, Try.results25, go_sem, e0, e1, e2, e3, e4, e5, numV]
  · have hN : Hid (nplusN false A true B = B - A) := (if_neg (by decide)).trans (if_neg hBA)
    have hS : Hid (nplusS false A true B = true) := (if_neg (by decide)).trans (if_neg hBA)
    have C : ∀ w, Calls Try.prog 46 #[.agg #[.int .u64 (wd B 0 : Int), .int .u64 (wd B 1 : Int), .int .u64 (wd B 2 : Int), .int .u64 (wd B 3 : Int)], .agg #[.int .u64 (wd A 0 : Int), .int .u64 (wd A 1 : Int), .int .u64 (wd A 2 : Int), .int .u64 (wd A 3 : Int)]] w fun e w' => e = .returned (.agg #[.int .u64 (wd (B - A) 0 : Int), .int .u64 (wd (B - A) 1 : Int), .int .u64 (wd (B - A) 2 : Int), .int .u64 (wd (B - A) 3 : Int)]) ∧ Ext w w' := fun w => minus_any B A w hB hA (by omega)
    have hcb : binOp .geq 3 (.int .i64 (cmpN A B)) (.int .i64 0) = pure (.bool false) := by
      rw [cmpN_lt (by omega)]; rfl
    rw [hN.out, hS.out]
    clear hA hB z0 z1 z2 z3 hBA
    unfold numV
    generalize B - A = N at *
    generalize cmpN A B = c at *
    go_enter Try.func25, Try.ntmps25
    go_wp2_with fail
    generalize (((w.alloc (.cells #[.bool false, .int .u64 (wd A 0 : Int), .int .u64 (wd A 1 : Int), .int .u64 (wd A 2 : Int), .int .u64 (wd A 3 : Int), .int .i64 s] 46)).alloc (.cells #[.bool true, .int .u64 (wd B 0 : Int), .int .u64 (wd B 1 : Int), .int .u64 (wd B 2 : Int), .int .u64 (wd B 3 : Int), .int .i64 s] 46)).alloc (.cells #[.bool false, .int .u64 0, .int .u64 0, .int .u64 0, .int .u64 0, .int .i64 0] 46)) = W at *
    refine (C0 _).mono ?_
    rintro e w0 ⟨rfl, x0⟩
    replace h1 := h1.ext x0
    replace h2 := h2.ext x0
    replace h3 := h3.ext x0
    obtain ⟨c0, c1, c2, c3, c4, c5⟩ := h1.cells
    obtain ⟨d0, d1, d2, d3, d4, d5⟩ := h2.cells
    go_wp2_with fail
    have hx0 := hx.trans x0
    go_region_with (go_at_call 46; refine (C _).mono ?_; rintro e w1 ⟨rfl, x1⟩; have x1' := Ext.trans ((Ext.refl w0).drew) x1; obtain ⟨p0, p1, p2, p3, p4, p5⟩ := (h1.ext x1').cells; obtain ⟨f0, f1, f2, f3, f4, f5⟩ := (h1.ext x1').free; obtain ⟨q0, q1, q2, q3, q4, q5⟩ := (h2.ext x1').cells)
    all_goals
      have k3 := h3.ext x1'
      obtain ⟨g0, g1, g2, g3, g4, g5⟩ := k3.free
      obtain ⟨r0, r1, r2, r3, r4, r5⟩ := k3.cells
      clear c0 c1 c2 c3 c4 c5 d0 d1 d2 d3 d4 d5 q0 q1 q2 q3 q4 q5
      go_wp2_with fail
      refine bodyPost_ret (v := numV true N s) ?_ rfl ⟨rfl, ext_setNum (ext_setNumW (ext_setCell (hx0.trans x1') (Nat.le_refl _) _) (Nat.le_refl _) N) (by omega) true N s⟩
      have l3 : NumIn (w.heap.size + 2) false 0 0 (setNumW (w1.setCell ⟨w.heap.size, 0, none⟩ (.bool true)) w.heap.size N) := (heap_setNumW _ _ _ _ (by omega)).trans ((Below.heap_setCell _ _ _ _ (by simp)).trans k3)
      obtain ⟨e0, e1, e2, e3, e4, e5⟩ := (l3.stored true N s).cells
      change (results Try.f25 _).run Try.prog (setNum (setNumW (w1.setCell ⟨w.heap.size, 0, none⟩ (.bool true)) w.heap.size N) (w.heap.size + 2) true N s) = .ok _ (setNum (setNumW (w1.setCell ⟨w.heap.size, 0, none⟩ (.bool true)) w.heap.size N) (w.heap.size + 2) true N s)
      generalize setNum (setNumW (w1.setCell ⟨w.heap.size, 0, none⟩ (.bool true)) w.heap.size N) (w.heap.size + 2) true N s = W' at *
      simp [results, Try.results25, go_sem, e0, e1, e2, e3, e4, e5, numV]

set_option maxHeartbeats 2000000 in
set_option maxRecDepth 100000 in
theorem nplus_tf (A B : Nat) (s : Int) (w : World) (hA : A < W256) (hB : B < W256) :
    Calls Try.prog 25 #[numV true A s, numV false B s] w fun e w' => e = .returned (numV (nplusS true A false B) (nplusN true A false B) s) ∧ Ext w w' := by
  have z0 : wd 0 0 = 0 := by decide
  have z1 : wd 0 1 = 0 := by decide
  have z2 : wd 0 2 = 0 := by decide
  have z3 : wd 0 3 = 0 := by decide
  have hx : Ext w (((w.alloc (.cells #[.bool true, .int .u64 (wd A 0 : Int), .int .u64 (wd A 1 : Int), .int .u64 (wd A 2 : Int), .int .u64 (wd A 3 : Int), .int .i64 s] 46)).alloc (.cells #[.bool false, .int .u64 (wd B 0 : Int), .int .u64 (wd B 1 : Int), .int .u64 (wd B 2 : Int), .int .u64 (wd B 3 : Int), .int .i64 s] 46)).alloc (.cells #[.bool false, .int .u64 0, .int .u64 0, .int .u64 0, .int .u64 0, .int .i64 0] 46)) := (((Ext.refl _).alloc _).alloc _).alloc _
  have h1 : NumIn w.heap.size true A s (((w.alloc (.cells #[.bool true, .int .u64 (wd A 0 : Int), .int .u64 (wd A 1 : Int), .int .u64 (wd A 2 : Int), .int .u64 (wd A 3 : Int), .int .i64 s] 46)).alloc (.cells #[.bool false, .int .u64 (wd B 0 : Int), .int .u64 (wd B 1 : Int), .int .u64 (wd B 2 : Int), .int .u64 (wd B 3 : Int), .int .i64 s] 46)).alloc (.cells #[.bool false, .int .u64 0, .int .u64 0, .int .u64 0, .int .u64 0, .int .i64 0] 46)) := heap_at3a _ _ _ _
  have h2 : NumIn (w.heap.size + 1) false B s (((w.alloc (.cells #[.bool true, .int .u64 (wd A 0 : Int), .int .u64 (wd A 1 : Int), .int .u64 (wd A 2 : Int), .int .u64 (wd A 3 : Int), .int .i64 s] 46)).alloc (.cells #[.bool false, .int .u64 (wd B 0 : Int), .int .u64 (wd B 1 : Int), .int .u64 (wd B 2 : Int), .int .u64 (wd B 3 : Int), .int .i64 s] 46)).alloc (.cells #[.bool false, .int .u64 0, .int .u64 0, .int .u64 0, .int .u64 0, .int .i64 0] 46)) := heap_at3b _ _ _ _
  have h3 : NumIn (w.heap.size + 2) false 0 0 (((w.alloc (.cells #[.bool true, .int .u64 (wd A 0 : Int), .int .u64 (wd A 1 : Int), .int .u64 (wd A 2 : Int), .int .u64 (wd A 3 : Int), .int .i64 s] 46)).alloc (.cells #[.bool false, .int .u64 (wd B 0 : Int), .int .u64 (wd B 1 : Int), .int .u64 (wd B 2 : Int), .int .u64 (wd B 3 : Int), .int .i64 s] 46)).alloc (.cells #[.bool false, .int .u64 0, .int .u64 0, .int .u64 0, .int .u64 0, .int .i64 0] 46)) := by
    unfold NumIn; rw [z0, z1, z2, z3]; exact heap_at3c _ _ _ _
  have C0 : ∀ w, Calls Try.prog 45 #[.agg #[.int .u64 (wd A 0 : Int), .int .u64 (wd A 1 : Int), .int .u64 (wd A 2 : Int), .int .u64 (wd A 3 : Int)], .agg #[.int .u64 (wd B 0 : Int), .int .u64 (wd B 1 : Int), .int .u64 (wd B 2 : Int), .int .u64 (wd B 3 : Int)]] w fun e w' => e = .returned (.int .i64 (cmpN A B)) ∧ Ext w w' := fun w => compare_any A B w hA hB
  by_cases hBA : B ≤ A
  · have hN : Hid (nplusN true A false B = A - B) := (if_neg (by decide)).trans (if_pos hBA)
    have hS : Hid (nplusS true A false B = true) := (if_neg (by decide)).trans (if_pos hBA)
    have C : ∀ w, Calls Try.prog 46 #[.agg #[.int .u64 (wd A 0 : Int), .int .u64 (wd A 1 : Int), .int .u64 (wd A 2 : Int), .int .u64 (wd A 3 : Int)], .agg #[.int .u64 (wd B 0 : Int), .int .u64 (wd B 1 : Int), .int .u64 (wd B 2 : Int), .int .u64 (wd B 3 : Int)]] w fun e w' => e = .returned (.agg #[.int .u64 (wd (A - B) 0 : Int), .int .u64 (wd (A - B) 1 : Int), .int .u64 (wd (A - B) 2 : Int), .int .u64 (wd (A - B) 3 : Int)]) ∧ Ext w w' := fun w => minus_any A B w hA hB hBA
    have hc : cmpN A B = 0 ∨ cmpN A B = 1 := by unfold cmpN; rw [if_neg (by omega)]; by_cases h : A > B <;> simp [h]
    have hcb : binOp .geq 3 (.int .i64 (cmpN A B)) (.int .i64 0) = pure (.bool true) := by
      rcases hc with h | h <;> (rw [h]; rfl)
    rw [hN.out, hS.out]
    clear hA hB z0 z1 z2 z3 hBA hc
    unfold numV
    generalize A - B = N at *
    generalize cmpN A B = c at *
    go_enter Try.func25, Try.ntmps25
    go_wp2_with fail
    generalize (((w.alloc (.cells #[.bool true, .int .u64 (wd A 0 : Int), .int .u64 (wd A 1 : Int), .int .u64 (wd A 2 : Int), .int .u64 (wd A 3 : Int), .int .i64 s] 46)).alloc (.cells #[.bool false, .int .u64 (wd B 0 : Int), .int .u64 (wd B 1 : Int), .int .u64 (wd B 2 : Int), .int .u64 (wd B 3 : Int), .int .i64 s] 46)).alloc (.cells #[.bool false, .int .u64 0, .int .u64 0, .int .u64 0, .int .u64 0, .int .i64 0] 46)) = W at *
    refine (C0 _).mono ?_
    rintro e w0 ⟨rfl, x0⟩
    replace h1 := h1.ext x0
    replace h2 := h2.ext x0
    obtain ⟨c0, c1, c2, c3, c4, c5⟩ := h1.cells
    obtain ⟨d0, d1, d2, d3, d4, d5⟩ := h2.cells
    go_wp2_with fail
    refine (C _).mono ?_
    rintro e w1 ⟨rfl, x1⟩
    clear c0 c1 c2 c3 c4 c5 d0 d1 d2 d3 d4 d5
    replace h1 := h1.ext x1
    replace h3 := (h3.ext x0).ext x1
    obtain ⟨c0, c1, c2, c3, c4, c5⟩ := h1.cells
    obtain ⟨f0, f1, f2, f3, f4, f5⟩ := h1.free
    obtain ⟨g0, g1, g2, g3, g4, g5⟩ := h3.free
    obtain ⟨d0, d1, d2, d3, d4, d5⟩ := h3.cells
    clear h2
    go_wp2_with fail
    refine bodyPost_ret (v := numV true N s) ?_ rfl ⟨rfl, ext_setNum (ext_setNumW ((hx.trans x0).trans x1) (Nat.le_refl _) N) (by omega) true N s⟩
    have k3 : NumIn (w.heap.size + 2) false 0 0 (setNumW w1 w.heap.size N) := (heap_setNumW _ _ _ _ (by omega)).trans h3
    obtain ⟨e0, e1, e2, e3, e4, e5⟩ := (k3.stored true N s).cells
    change (results Try.f25 _).run Try.prog (setNum (setNumW w1 w.heap.size N) (w.heap.size + 2) true N s) = .ok _ (setNum (setNumW w1 w.heap.size N) (w.heap.size + 2) true N s)
    generalize setNum (setNumW w1 w.heap.size N) (w.heap.size + 2) true N s = W' at *
    simp [results, Try.results25, go_sem, e0, e1, e2, e3, e4, e5, numV]
  · have hN : Hid (nplusN true A false B = B - A) := (if_neg (by decide)).trans (if_neg hBA)
    have hS : Hid (nplusS true A false B = false) := (if_neg (by decide)).trans (if_neg hBA)
    have C : ∀ w, Calls Try.prog 46 #[.agg #[.int .u64 (wd B 0 : Int), .int .u64 (wd B 1 : Int), .int .u64 (wd B 2 : Int), .int .u64 (wd B 3 : Int)], .agg #[.int .u64 (wd A 0 : Int), .int .u64 (wd A 1 : Int), .int .u64 (wd A 2 : Int), .int .u64 (wd A 3 : Int)]] w fun e w' => e = .returned (.agg #[.int .u64 (wd (B - A) 0 : Int), .int .u64 (wd (B - A) 1 : Int), .int .u64 (wd (B - A) 2 : Int), .int .u64 (wd (B - A) 3 : Int)]) ∧ Ext w w' := fun w => minus_any B A w hB hA (by omega)
    have hcb : binOp .geq 3 (.int .i64 (cmpN A B)) (.int .i64 0) = pure (.bool false) := by
      rw [cmpN_lt (by omega)]; rfl
    rw [hN.out, hS.out]
    clear hA hB z0 z1 z2 z3 hBA
    unfold numV
    generalize B - A = N at *
    generalize cmpN A B = c at *
    go_enter Try.func25, Try.ntmps25
    go_wp2_with fail
    generalize (((w.alloc (.cells #[.bool true, .int .u64 (wd A 0 : Int), .int .u64 (wd A 1 : Int), .int .u64 (wd A 2 : Int), .int .u64 (wd A 3 : Int), .int .i64 s] 46)).alloc (.cells #[.bool false, .int .u64 (wd B 0 : Int), .int .u64 (wd B 1 : Int), .int .u64 (wd B 2 : Int), .int .u64 (wd B 3 : Int), .int .i64 s] 46)).alloc (.cells #[.bool false, .int .u64 0, .int .u64 0, .int .u64 0, .int .u64 0, .int .i64 0] 46)) = W at *
    refine (C0 _).mono ?_
    rintro e w0 ⟨rfl, x0⟩
    replace h1 := h1.ext x0
    replace h2 := h2.ext x0
    replace h3 := h3.ext x0
    obtain ⟨c0, c1, c2, c3, c4, c5⟩ := h1.cells
    obtain ⟨d0, d1, d2, d3, d4, d5⟩ := h2.cells
    go_wp2_with fail
    have hx0 := hx.trans x0
    go_region_with (go_at_call 46; refine (C _).mono ?_; rintro e w1 ⟨rfl, x1⟩; have x1' := Ext.trans ((Ext.refl w0).drew) x1; obtain ⟨p0, p1, p2, p3, p4, p5⟩ := (h1.ext x1').cells; obtain ⟨f0, f1, f2, f3, f4, f5⟩ := (h1.ext x1').free; obtain ⟨q0, q1, q2, q3, q4, q5⟩ := (h2.ext x1').cells)
    all_goals
      have k3 := h3.ext x1'
      obtain ⟨g0, g1, g2, g3, g4, g5⟩ := k3.free
      obtain ⟨r0, r1, r2, r3, r4, r5⟩ := k3.cells
      clear c0 c1 c2 c3 c4 c5 d0 d1 d2 d3 d4 d5 q0 q1 q2 q3 q4 q5
      go_wp2_with fail
      refine bodyPost_ret (v := numV false N s) ?_ rfl ⟨rfl, ext_setNum (ext_setNumW (ext_setCell (hx0.trans x1') (Nat.le_refl _) _) (Nat.le_refl _) N) (by omega) false N s⟩
      have l3 : NumIn (w.heap.size + 2) false 0 0 (setNumW (w1.setCell ⟨w.heap.size, 0, none⟩ (.bool false)) w.heap.size N) := (heap_setNumW _ _ _ _ (by omega)).trans ((Below.heap_setCell _ _ _ _ (by simp)).trans k3)
      obtain ⟨e0, e1, e2, e3, e4, e5⟩ := (l3.stored false N s).cells
      change (results Try.f25 _).run Try.prog (setNum (setNumW (w1.setCell ⟨w.heap.size, 0, none⟩ (.bool false)) w.heap.size N) (w.heap.size + 2) false N s) = .ok _ (setNum (setNumW (w1.setCell ⟨w.heap.size, 0, none⟩ (.bool false)) w.heap.size N) (w.heap.size + 2) false N s)
      generalize setNum (setNumW (w1.setCell ⟨w.heap.size, 0, none⟩ (.bool false)) w.heap.size N) (w.heap.size + 2) false N s = W' at *
      simp [results, Try.results25, go_sem, e0, e1, e2, e3, e4, e5, numV]

set_option maxHeartbeats 2000000 in
set_option maxRecDepth 100000 in
theorem nplus_any (n m : Bool) (A B : Nat) (s : Int) (w : World) (hA : A < W256) (hB : B < W256) (hAB : A + B < W256) :
    Calls Try.prog 25 #[numV n A s, numV m B s] w fun e w' => e = .returned (numV (nplusS n A m B) (nplusN n A m B) s) ∧ Ext w w' := by
  have z0 : wd 0 0 = 0 := by decide
  have z1 : wd 0 1 = 0 := by decide
  have z2 : wd 0 2 = 0 := by decide
  have z3 : wd 0 3 = 0 := by decide
  have hx : Ext w (((w.alloc (.cells #[.bool n, .int .u64 (wd A 0 : Int), .int .u64 (wd A 1 : Int), .int .u64 (wd A 2 : Int), .int .u64 (wd A 3 : Int), .int .i64 s] 46)).alloc (.cells #[.bool m, .int .u64 (wd B 0 : Int), .int .u64 (wd B 1 : Int), .int .u64 (wd B 2 : Int), .int .u64 (wd B 3 : Int), .int .i64 s] 46)).alloc (.cells #[.bool false, .int .u64 0, .int .u64 0, .int .u64 0, .int .u64 0, .int .i64 0] 46)) := (((Ext.refl _).alloc _).alloc _).alloc _
  have h1 : NumIn w.heap.size n A s (((w.alloc (.cells #[.bool n, .int .u64 (wd A 0 : Int), .int .u64 (wd A 1 : Int), .int .u64 (wd A 2 : Int), .int .u64 (wd A 3 : Int), .int .i64 s] 46)).alloc (.cells #[.bool m, .int .u64 (wd B 0 : Int), .int .u64 (wd B 1 : Int), .int .u64 (wd B 2 : Int), .int .u64 (wd B 3 : Int), .int .i64 s] 46)).alloc (.cells #[.bool false, .int .u64 0, .int .u64 0, .int .u64 0, .int .u64 0, .int .i64 0] 46)) := heap_at3a _ _ _ _
  have h2 : NumIn (w.heap.size + 1) m B s (((w.alloc (.cells #[.bool n, .int .u64 (wd A 0 : Int), .int .u64 (wd A 1 : Int), .int .u64 (wd A 2 : Int), .int .u64 (wd A 3 : Int), .int .i64 s] 46)).alloc (.cells #[.bool m, .int .u64 (wd B 0 : Int), .int .u64 (wd B 1 : Int), .int .u64 (wd B 2 : Int), .int .u64 (wd B 3 : Int), .int .i64 s] 46)).alloc (.cells #[.bool false, .int .u64 0, .int .u64 0, .int .u64 0, .int .u64 0, .int .i64 0] 46)) := heap_at3b _ _ _ _
  have h3 : NumIn (w.heap.size + 2) false 0 0 (((w.alloc (.cells #[.bool n, .int .u64 (wd A 0 : Int), .int .u64 (wd A 1 : Int), .int .u64 (wd A 2 : Int), .int .u64 (wd A 3 : Int), .int .i64 s] 46)).alloc (.cells #[.bool m, .int .u64 (wd B 0 : Int), .int .u64 (wd B 1 : Int), .int .u64 (wd B 2 : Int), .int .u64 (wd B 3 : Int), .int .i64 s] 46)).alloc (.cells #[.bool false, .int .u64 0, .int .u64 0, .int .u64 0, .int .u64 0, .int .i64 0] 46)) := by
    unfold NumIn; rw [z0, z1, z2, z3]; exact heap_at3c _ _ _ _
  by_cases hnm : n = m
  · have hN : Hid (nplusN n A m B = A + B) := if_pos hnm
    have hS : Hid (nplusS n A m B = n) := if_pos hnm
    have C : ∀ w, Calls Try.prog 44 #[.agg #[.int .u64 (wd A 0 : Int), .int .u64 (wd A 1 : Int), .int .u64 (wd A 2 : Int), .int .u64 (wd A 3 : Int)], .agg #[.int .u64 (wd B 0 : Int), .int .u64 (wd B 1 : Int), .int .u64 (wd B 2 : Int), .int .u64 (wd B 3 : Int)]] w fun e w' => e = .returned (.agg #[.int .u64 (wd (A + B) 0 : Int), .int .u64 (wd (A + B) 1 : Int), .int .u64 (wd (A + B) 2 : Int), .int .u64 (wd (A + B) 3 : Int)]) ∧ Ext w w' := fun w => plus_any A B w hA hB hAB
    rw [hN.out, hS.out]
    clear hA hB hAB z0 z1 z2 z3
    unfold numV
    generalize A + B = N at *
    subst hnm
    go_enter Try.func25, Try.ntmps25
    go_wp2_with fail
    generalize (((w.alloc (.cells #[.bool n, .int .u64 (wd A 0 : Int), .int .u64 (wd A 1 : Int), .int .u64 (wd A 2 : Int), .int .u64 (wd A 3 : Int), .int .i64 s] 46)).alloc (.cells #[.bool n, .int .u64 (wd B 0 : Int), .int .u64 (wd B 1 : Int), .int .u64 (wd B 2 : Int), .int .u64 (wd B 3 : Int), .int .i64 s] 46)).alloc (.cells #[.bool false, .int .u64 0, .int .u64 0, .int .u64 0, .int .u64 0, .int .i64 0] 46)) = W at *
    refine (C _).mono ?_
    rintro e w1 ⟨rfl, x1⟩
    replace h1 := h1.ext x1
    replace h3 := h3.ext x1
    obtain ⟨c0, c1, c2, c3, c4, c5⟩ := h1.cells
    obtain ⟨f0, f1, f2, f3, f4, f5⟩ := h1.free
    obtain ⟨g0, g1, g2, g3, g4, g5⟩ := h3.free
    obtain ⟨d0, d1, d2, d3, d4, d5⟩ := h3.cells
    clear h2
    go_wp2_with fail
    refine bodyPost_ret (v := numV n N s) ?_ rfl ⟨rfl, ext_setNum (ext_setNumW (hx.trans x1) (Nat.le_refl _) N) (by omega) n N s⟩
    have k3 : NumIn (w.heap.size + 2) false 0 0 (setNumW w1 w.heap.size N) := (heap_setNumW _ _ _ _ (by omega)).trans h3
    obtain ⟨e0, e1, e2, e3, e4, e5⟩ := (k3.stored n N s).cells
    change (results Try.f25 _).run Try.prog (setNum (setNumW w1 w.heap.size N) (w.heap.size + 2) n N s) = .ok _ (setNum (setNumW w1 w.heap.size N) (w.heap.size + 2) n N s)
    generalize setNum (setNumW w1 w.heap.size N) (w.heap.size + 2) n N s = W' at *
    simp [results, Try.results25, go_sem, e0, e1, e2, e3, e4, e5, numV]
  · cases n <;> cases m
    · exact absurd rfl hnm
    · exact nplus_ft A B s w hA hB
    · exact nplus_tf A B s w hA hB
    · exact absurd rfl hnm
end Go.Proofs.Ythfihlapgoglaaa
