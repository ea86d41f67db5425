/- What the statements' calls of Add, Times, Neg tell of decimals that may be. -/
import Derived.Test.YthfihlapgoglaaaScaledW
namespace Go.Proofs.Ythfihlapgoglaaa
open Go.RowKit

theorem DecsAt.two {b : Nat} {a1 a2 b1 b2 : Int} {w : World} {t : TypeId} {fr : Nat × Nat} (h : w.heap[b]? = some (.cells #[.int .i64 a1, .int .i64 a2, .int .i64 b1, .int .i64 b2] t fr)) : DecsAt b 0 [(a1, a2), (b1, b2)] w := by
  intro i hi
  have hi3 : i = 0 ∨ i = 1 := by simp at hi; omega
  rcases hi3 with rfl | rfl <;> exact ⟨(Lib.cell_of_heap h _).trans rfl, (Lib.cell_of_heap h _).trans rfl⟩
theorem good_i64 {M S : Int} (g : goodB M S = true) : I64 S := by
  obtain ⟨h1, h2, _⟩ := good_range g
  unfold I64; omega
/-- Add of two that may be. -/
theorem add2_in {m1 s1 m2 s2 : Int} (g1 : goodB m1 s1 = true) (i1 : I64 m1) (g2 : goodB m2 s2 = true) (i2 : I64 m2) (b : Nat) (w : World) (h : w.heap[b]? = some (.cells #[.int .i64 m1, .int .i64 s1, .int .i64 m2, .int .i64 s2] 25 (0, 0))) :
    Calls Try.prog 9 #[.slice (some ⟨b, 0, none⟩) 2 2] w fun e w' => e = .returned (.tuple #[.agg #[.int .i64 (canZ (v18 m1 s1 + v18 m2 s2) 18).1.1, .int .i64 (canZ (v18 m1 s1 + v18 m2 s2) 18).1.2], .bool (canZ (v18 m1 s1 + v18 m2 s2) 18).2]) ∧ Ext w w' := by
  have := Add_any b 0 2 [(m1, s1), (m2, s2)] w (by simp) (by intro d hd; simp at hd; rcases hd with rfl | rfl <;> first | exact ⟨i1, good_i64 g1⟩ | exact ⟨i2, good_i64 g2⟩) (Array.getElem?_eq_some_iff.1 h).1 (DecsAt.two h)
  rw [sum_two g1 g2 i1] at this
  exact this
theorem add2_at {m1 s1 m2 s2 : Int} (g1 : goodB m1 s1 = true) (i1 : I64 m1) (g2 : goodB m2 s2 = true) (i2 : I64 m2) (X : World) :
    Calls Try.prog 9 #[.slice (some ⟨X.heap.size, 0, none⟩) 2 2] (X.alloc (.cells #[.int .i64 m1, .int .i64 s1, .int .i64 m2, .int .i64 s2] 25)) fun e w' => e = .returned (.tuple #[.agg #[.int .i64 (canZ (v18 m1 s1 + v18 m2 s2) 18).1.1, .int .i64 (canZ (v18 m1 s1 + v18 m2 s2) 18).1.2], .bool (canZ (v18 m1 s1 + v18 m2 s2) 18).2]) ∧ Ext X w' :=
  (add2_in g1 i1 g2 i2 X.heap.size (X.alloc (.cells #[.int .i64 m1, .int .i64 s1, .int .i64 m2, .int .i64 s2] 25)) (heap_last _ _)).mono (fun _ _ ⟨he, x⟩ => ⟨he, ((Ext.refl X).alloc _).trans x⟩)
/-- The sum of two in whatever way it is said. -/
theorem times_can {m1 s1 m2 s2 : Int} (g1 : goodB m1 s1 = true) (i1 : I64 m1) (g2 : goodB m2 s2 = true) (i2 : I64 m2) (w : World) :
    Calls Try.prog 11 #[.agg #[.int .i64 m1, .int .i64 s1], .agg #[.int .i64 m2, .int .i64 s2]] w fun e w' => e = .returned (.tuple #[.agg #[.int .i64 (canZ (m1 * m2) (s1 + s2).toNat).1.1, .int .i64 (canZ (m1 * m2) (s1 + s2).toNat).1.2], .bool (canZ (m1 * m2) (s1 + s2).toNat).2]) ∧ Ext w w' := by
  have := Times_any m1 s1 m2 s2 w i1 (good_i64 g1) i2 (good_i64 g2)
  have h := mul_is m1 s1 m2 s2 g1 g2
  rw [← h]
  exact this
theorem neg_can {m s : Int} (g : goodB m s = true) (i : I64 m) (w : World) :
    Calls Try.prog 19 #[.agg #[.int .i64 m, .int .i64 s]] w fun e w' => e = .returned (.agg #[.int .i64 (-m), .int .i64 s]) ∧ Ext w w' := by
  have := Neg_any m s w i (good_i64 g)
  rw [(cM_good g).1, (cM_good g).2] at this
  exact this
theorem cmp_can {m1 s1 m2 s2 : Int} (g1 : goodB m1 s1 = true) (i1 : I64 m1) (g2 : goodB m2 s2 = true) (i2 : I64 m2) (w : World) :
    Calls Try.prog 17 #[.agg #[.int .i64 m1, .int .i64 s1], .agg #[.int .i64 m2, .int .i64 s2]] w fun e w' => e = .returned (.int .i64 (sg (v18 m1 s1 - v18 m2 s2))) ∧ Ext w w' := by
  obtain ⟨a1, a2, _⟩ := good_range g1
  obtain ⟨b1, b2, _⟩ := good_range g2
  have := Compare_any m1 s1 m2 s2 w i1 (good_i64 g1) i2 (good_i64 g2)
  rw [(cM_good g1).1, (cM_good g1).2, (cM_good g2).1, (cM_good g2).2, cmp_is _ _ _ _ ⟨a1, a2⟩ ⟨b1, b2⟩] at this
  exact this

theorem new_ne1 {w : World} {b : Nat} {u : Value} (h : w.cell? ⟨b, 0, none⟩ = some u) : w.heap.size + 1 ≠ b := by
  have := World.block_lt_of_cell? w ⟨b, 0, none⟩ h
  simp only [] at this
  omega
/-- One decimal in memory; what was there stands. -/
def One (w : World) (b : Nat) (m s : Int) (W : World) : Prop := Ext w W ∧ DecIn b m s W
theorem One.ext {w : World} {b : Nat} {m s : Int} {W W' : World} (h : One w b m s W) (x : Ext W W') : One w b m s W' := ⟨h.1.trans x, h.2.ext x⟩
theorem one_keep {w : World} {b : Nat} {m s : Int} {w0 : World} (h : One w b m s w0) {k : Nat} {args : Array Value} {v : Value} (C : Calls Try.prog k args w0 fun e w' => e = .returned v ∧ Ext w0 w') :
    Calls Try.prog k args w0 fun e w' => e = .returned v ∧ Ext w0 w' ∧ One w b m s w' ∧ w'.cell? ⟨b, 0, none⟩ = some (.int .i64 m) ∧ w'.cell? ⟨b, 1, none⟩ = some (.int .i64 s) :=
  C.mono (fun _ _ ⟨he, x⟩ => ⟨he, x, h.ext x, (h.ext x).2.cells.1, (h.ext x).2.cells.2⟩)
end Go.Proofs.Ythfihlapgoglaaa
