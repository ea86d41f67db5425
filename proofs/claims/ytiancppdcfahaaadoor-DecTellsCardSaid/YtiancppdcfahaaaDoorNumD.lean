/- The walk of number.plus. -/
import Derived.Test.YtiancppdcfahaaaDoorNumC
import Derived.Deep.RegionWith
namespace Go.Proofs.YtiancppdcfahaaaDoor
open Go.RowKit

/-- The words of a number stored. -/
def setNumW (w : World) (b N : Nat) : World := (((w.setCell ⟨b, 1, none⟩ (.int .u64 (wd N 0 : Int))).setCell ⟨b, 2, none⟩ (.int .u64 (wd N 1 : Int))).setCell ⟨b, 3, none⟩ (.int .u64 (wd N 2 : Int))).setCell ⟨b, 4, none⟩ (.int .u64 (wd N 3 : Int))
/-- A number stored. -/
def setNum (w : World) (b : Nat) (n : Bool) (N : Nat) (s : Int) : World := (setNumW (w.setCell ⟨b, 0, none⟩ (.bool n)) b N).setCell ⟨b, 5, none⟩ (.int .i64 s)
theorem heap_setNumW (w : World) (b N k : Nat) (h : k ≠ b) : (setNumW w b N).heap[k]? = w.heap[k]? := by
  unfold setNumW
  rw [Below.heap_setCell _ _ _ _ h, Below.heap_setCell _ _ _ _ h, Below.heap_setCell _ _ _ _ h, Below.heap_setCell _ _ _ _ h]
theorem ext_setNumW {a w : World} (h : Ext a w) {b : Nat} (hb : a.heap.size ≤ b) (N : Nat) : Ext a (setNumW w b N) :=
  ext_setCell (ext_setCell (ext_setCell (ext_setCell h hb _) hb _) hb _) hb _
theorem ext_setNum {a w : World} (h : Ext a w) {b : Nat} (hb : a.heap.size ≤ b) (n : Bool) (N : Nat) (s : Int) : Ext a (setNum w b n N s) :=
  ext_setCell (ext_setNumW (ext_setCell h hb _) hb _) hb _

/-- The sum of two numbers with a sign. -/
def nplusN (n : Bool) (A : Nat) (m : Bool) (B : Nat) : Nat := if n = m then A + B else if B ≤ A then A - B else B - A
def nplusS (n : Bool) (A : Nat) (m : Bool) (B : Nat) : Bool := if n = m then n else if B ≤ A then n else m

end Go.Proofs.YtiancppdcfahaaaDoor
