/- The walks of sum.counted, number.compare. -/
import Derived.Test.YtiancppdcfahaaaDoorNumB
namespace Go.Proofs.YtiancppdcfahaaaDoor
open Go.RowKit

theorem heap_at2a (w : World) (o p : Obj) : ((w.alloc o).alloc p).heap[w.heap.size]? = some o := (Below.heap_alloc _ _ _ (by rw [heap_size_alloc]; omega)).trans (heap_last _ _)
theorem heap_at2b (w : World) (o p : Obj) : ((w.alloc o).alloc p).heap[w.heap.size + 1]? = some p := by rw [← heap_size_alloc w o]; exact heap_last _ _
theorem heap_at3a (w : World) (o p q : Obj) : (((w.alloc o).alloc p).alloc q).heap[w.heap.size]? = some o := (Below.heap_alloc _ _ _ (by rw [heap_size_alloc, heap_size_alloc]; omega)).trans (heap_at2a _ _ _)
theorem heap_at3b (w : World) (o p q : Obj) : (((w.alloc o).alloc p).alloc q).heap[w.heap.size + 1]? = some p := (Below.heap_alloc _ _ _ (by rw [heap_size_alloc, heap_size_alloc]; omega)).trans (heap_at2b _ _ _)
theorem heap_at3c (w : World) (o p q : Obj) : (((w.alloc o).alloc p).alloc q).heap[w.heap.size + 2]? = some q := by
  have := heap_last ((w.alloc o).alloc p) q
  rwa [heap_size_alloc, heap_size_alloc] at this

/-- A decimal in memory, in block b. -/
def DecIn (b : Nat) (M S : Int) (w : World) : Prop := w.heap[b]? = some (.cells #[.int .i64 M, .int .i64 S] 23 (0, 0))
theorem DecIn.ext {b : Nat} {M S : Int} {w w' : World} (h : DecIn b M S w) (hk : Ext w w') : DecIn b M S w' := (hk.heap (Array.getElem?_eq_some_iff.1 h).1).trans h
theorem DecIn.cells {b : Nat} {M S : Int} {w : World} (h : DecIn b M S w) :
    w.cell? ⟨b, 0, none⟩ = some (.int .i64 M) ∧ w.cell? ⟨b, 1, none⟩ = some (.int .i64 S) := by
  refine ⟨?_, ?_⟩ <;> (rw [Lib.cell_of_heap h]; rfl)
theorem DecIn.free {b : Nat} {M S : Int} {w : World} (h : DecIn b M S w) :
    w.frozen? ⟨b, 0, none⟩ = false ∧ w.frozen? ⟨b, 1, none⟩ = false := ⟨Lib.frozen_of_heap h 0, Lib.frozen_of_heap h 1⟩
/-- A decimal stored. -/
def setDec (w : World) (b : Nat) (M S : Int) : World := (w.setCell ⟨b, 0, none⟩ (.int .i64 M)).setCell ⟨b, 1, none⟩ (.int .i64 S)
theorem DecIn.stored {b : Nat} {M S : Int} {w : World} (h : DecIn b M S w) (M' S' : Int) : DecIn b M' S' (setDec w b M' S') := by
  unfold DecIn at *
  simp [setDec, World.setCell, Array.getElem?_modify, h]
theorem heap_setDec (w : World) (b k : Nat) (M S : Int) (h : k ≠ b) : (setDec w b M S).heap[k]? = w.heap[k]? := by
  unfold setDec
  rw [Below.heap_setCell _ _ _ _ h, Below.heap_setCell _ _ _ _ h]
theorem ext_setDec {a w : World} (h : Ext a w) {b : Nat} (hb : a.heap.size ≤ b) (M S : Int) : Ext a (setDec w b M S) :=
  ext_setCell (ext_setCell h hb _) hb _

/-- What compare tells of two numbers with a sign. -/
def ncmp (n : Bool) (A : Nat) (m : Bool) (B : Nat) : Int := if n then (if m then cmpN B A else -1) else (if m then 1 else cmpN A B)

end Go.Proofs.YtiancppdcfahaaaDoor
