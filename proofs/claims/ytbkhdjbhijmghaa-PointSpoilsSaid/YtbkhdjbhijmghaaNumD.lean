/- The walk of number.plus. -/
import Derived.Test.YtbkhdjbhijmghaaNumC
import Derived.Deep.RegionWith
namespace Go.Proofs.Ytbkhdjbhijmghaa
open Go.RowKit

/-- The words of a number stored. -/
def setNumW (w : World) (b N : Nat) : World := (((w.setCell ⟨b, 1, none⟩ (.int .u64 (wd N 0 : Int))).setCell ⟨b, 2, none⟩ (.int .u64 (wd N 1 : Int))).setCell ⟨b, 3, none⟩ (.int .u64 (wd N 2 : Int))).setCell ⟨b, 4, none⟩ (.int .u64 (wd N 3 : Int))
/-- A number stored. -/
def setNum (w : World) (b : Nat) (n : Bool) (N : Nat) (s : Int) : World := (setNumW (w.setCell ⟨b, 0, none⟩ (.bool n)) b N).setCell ⟨b, 5, none⟩ (.int .i64 s)
theorem NumIn.storedW {b : Nat} {n : Bool} {A : Nat} {s : Int} {w : World} (h : NumIn b n A s w) (N : Nat) : NumIn b n N s (setNumW w b N) := by
  unfold NumIn at *
  simp [setNumW, World.setCell, Array.getElem?_modify, h]
theorem NumIn.stored {b : Nat} {n : Bool} {A : Nat} {s : Int} {w : World} (h : NumIn b n A s w) (m : Bool) (N : Nat) (t : Int) : NumIn b m N t (setNum w b m N t) := by
  unfold NumIn at *
  simp [setNum, setNumW, World.setCell, Array.getElem?_modify, h]
theorem NumIn.storedB {b : Nat} {n : Bool} {A : Nat} {s : Int} {w : World} (h : NumIn b n A s w) (m : Bool) : NumIn b m A s (w.setCell ⟨b, 0, none⟩ (.bool m)) := by
  unfold NumIn at *
  simp [World.setCell, Array.getElem?_modify, h]
theorem NumIn.storedS {b : Nat} {n : Bool} {A : Nat} {s : Int} {w : World} (h : NumIn b n A s w) (t : Int) : NumIn b n A t (w.setCell ⟨b, 5, none⟩ (.int .i64 t)) := by
  unfold NumIn at *
  simp [World.setCell, Array.getElem?_modify, h]
theorem heap_setNumW (w : World) (b N k : Nat) (h : k ≠ b) : (setNumW w b N).heap[k]? = w.heap[k]? := by
  unfold setNumW
  rw [Below.heap_setCell _ _ _ _ h, Below.heap_setCell _ _ _ _ h, Below.heap_setCell _ _ _ _ h, Below.heap_setCell _ _ _ _ h]
theorem ext_setNumW {a w : World} (h : Ext a w) {b : Nat} (hb : a.heap.size ≤ b) (N : Nat) : Ext a (setNumW w b N) :=
  ext_setCell (ext_setCell (ext_setCell (ext_setCell h hb _) hb _) hb _) hb _
theorem ext_setNum {a w : World} (h : Ext a w) {b : Nat} (hb : a.heap.size ≤ b) (n : Bool) (N : Nat) (s : Int) : Ext a (setNum w b n N s) :=
  ext_setCell (ext_setNumW (ext_setCell h hb _) hb _) hb _

/-- The sum of two numbers with a sign. -/
def nplusN (n : Bool) (A : Nat) (m : Bool) (B : Nat) : Nat := if n = m then A + B else if B ≤ A then A - B else B - A
def nplusS (n : Bool) (A : Nat) (m : Bool) (B : Nat) : Bool := if n = m then n else if B ≤ A then n else m

theorem plus_keep {b c : Nat} {n m : Bool} {A B : Nat} {s t : Int} {w w' : World} (h1 : NumIn b n A s w) (h2 : NumIn c m B t w) (x : Ext w w') :
    w'.cell? ⟨b, 1, none⟩ = some (.int .u64 (wd A 0 : Int)) ∧ w'.cell? ⟨b, 2, none⟩ = some (.int .u64 (wd A 1 : Int)) ∧ w'.cell? ⟨b, 3, none⟩ = some (.int .u64 (wd A 2 : Int)) ∧ w'.cell? ⟨b, 4, none⟩ = some (.int .u64 (wd A 3 : Int)) ∧ w'.cell? ⟨c, 0, none⟩ = some (.bool m) ∧ w'.cell? ⟨c, 1, none⟩ = some (.int .u64 (wd B 0 : Int)) ∧ w'.cell? ⟨c, 2, none⟩ = some (.int .u64 (wd B 1 : Int)) ∧ w'.cell? ⟨c, 3, none⟩ = some (.int .u64 (wd B 2 : Int)) ∧ w'.cell? ⟨c, 4, none⟩ = some (.int .u64 (wd B 3 : Int)) := by
  obtain ⟨_, c1, c2, c3, c4, _⟩ := (h1.ext x).cells
  obtain ⟨d0, d1, d2, d3, d4, _⟩ := (h2.ext x).cells
  exact ⟨c1, c2, c3, c4, d0, d1, d2, d3, d4⟩

end Go.Proofs.Ytbkhdjbhijmghaa
