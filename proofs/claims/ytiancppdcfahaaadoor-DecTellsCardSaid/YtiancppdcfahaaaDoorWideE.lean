/- The walk of sum.wide's power. -/
import Derived.Test.YtiancppdcfahaaaDoorWideD
import Derived.Lib.FrozenHead
namespace Go.Proofs.YtiancppdcfahaaaDoor
open Go.RowKit

/-- The four words stored. -/
def setWide (w : World) (b N : Nat) : World := (((w.setCell ⟨b, 0, none⟩ (.int .u64 (wd N 0 : Int))).setCell ⟨b, 1, none⟩ (.int .u64 (wd N 1 : Int))).setCell ⟨b, 2, none⟩ (.int .u64 (wd N 2 : Int))).setCell ⟨b, 3, none⟩ (.int .u64 (wd N 3 : Int))
theorem heap_setWide (w : World) (b N k : Nat) (h : k ≠ b) : (setWide w b N).heap[k]? = w.heap[k]? := by
  unfold setWide
  rw [Below.heap_setCell _ _ _ _ h, Below.heap_setCell _ _ _ _ h, Below.heap_setCell _ _ _ _ h, Below.heap_setCell _ _ _ _ h]
theorem ext_setWide {a w : World} (h : Ext a w) {b : Nat} (hb : a.heap.size ≤ b) (N : Nat) : Ext a (setWide w b N) :=
  ext_setCell (ext_setCell (ext_setCell (ext_setCell h hb _) hb _) hb _) hb _

theorem heap_last (w : World) (o : Obj) : (w.alloc o).heap[w.heap.size]? = some o := by
  show (w.heap.push o)[w.heap.size]? = some o
  simp
theorem heap_size_alloc (w : World) (o : Obj) : (w.alloc o).heap.size = w.heap.size + 1 := by
  show (w.heap.push o).size = _
  simp

theorem pow_step {A n k i : Nat} (hn : 0 < n) (h : i ≤ k) (hp : A * n ^ k < W256) : A * n ^ i < W256 :=
  Nat.lt_of_le_of_lt (Nat.mul_le_mul_left _ (Nat.pow_le_pow_right hn h)) hp

end Go.Proofs.YtiancppdcfahaaaDoor
