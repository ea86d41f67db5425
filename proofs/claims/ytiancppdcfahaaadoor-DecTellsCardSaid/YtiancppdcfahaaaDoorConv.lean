/- Bytes that the call has just made, turned into a string. -/
import Derived.Test.YtiancppdcfahaaaDoorBase
namespace Go.Proofs.YtiancppdcfahaaaDoor
open Go.RowKit

theorem under_bytes : Tryd.prog.underlying 47 = some (.slice 5) := by kernel_rfl
theorem under_byte : Tryd.prog.underlying 5 = some (.int .u8) := by kernel_rfl
theorem under_string : Tryd.prog.underlying 9 = some .string := by kernel_rfl

theorem conv_new (w : World) (xs : List Int) (c : Nat) :
    (convert 47 9 (.slice (some ⟨w.heap.size, 0, none⟩) xs.length c)).run Tryd.prog (w.alloc (.cells (xs.map (Value.int .u8)).toArray 5)) = .ok (.string (strOfNums xs)) (w.alloc (.cells (xs.map (Value.int .u8)).toArray 5)) := by
  refine run_convert_bytes_arg _ _ _ under_bytes under_byte _ _ _ _ xs rfl ?_ _ under_string
  intro i hi
  have : (w.alloc (.cells (xs.map (Value.int .u8)).toArray 5)).heap[w.heap.size]? = some (.cells (xs.map (Value.int .u8)).toArray 5) := heap_alloc_new w _
  unfold World.cell?
  rw [this]
  simp [List.getElem?_eq_getElem hi, List.getD]
theorem conv1 (w : World) (a : Int) : (convert 47 9 (.slice (some ⟨w.heap.size, 0, none⟩) 1 1)).run Tryd.prog (w.alloc (.cells #[.int .u8 a] 5)) = .ok (.string (strOfNums [a])) (w.alloc (.cells #[.int .u8 a] 5)) := conv_new w [a] 1
theorem conv2 (w : World) (a b : Int) : (convert 47 9 (.slice (some ⟨w.heap.size, 0, none⟩) 2 2)).run Tryd.prog (w.alloc (.cells #[.int .u8 a, .int .u8 b] 5)) = .ok (.string (strOfNums [a, b])) (w.alloc (.cells #[.int .u8 a, .int .u8 b] 5)) := conv_new w [a, b] 2
theorem conv3 (w : World) (a b c : Int) : (convert 47 9 (.slice (some ⟨w.heap.size, 0, none⟩) 3 3)).run Tryd.prog (w.alloc (.cells #[.int .u8 a, .int .u8 b, .int .u8 c] 5)) = .ok (.string (strOfNums [a, b, c])) (w.alloc (.cells #[.int .u8 a, .int .u8 b, .int .u8 c] 5)) := conv_new w [a, b, c] 3
theorem conv4 (w : World) (a b c d : Int) : (convert 47 9 (.slice (some ⟨w.heap.size, 0, none⟩) 4 4)).run Tryd.prog (w.alloc (.cells #[.int .u8 a, .int .u8 b, .int .u8 c, .int .u8 d] 5)) = .ok (.string (strOfNums [a, b, c, d])) (w.alloc (.cells #[.int .u8 a, .int .u8 b, .int .u8 c, .int .u8 d] 5)) := conv_new w [a, b, c, d] 4
end Go.Proofs.YtiancppdcfahaaaDoor
