/- The walks of the reference's Next, Bad, Count. -/
import Derived.Test.YtbkhdjbhijmghaaUtfC
namespace Go.Proofs.Ytbkhdjbhijmghaa
open Go.RowKit

theorem and31 (c : Nat) (h : c < 256) : bits BinOp.and IntKind.i32 (c : Int) 31 = ((headN 2 c : Nat) : Int) := by
  have H : ∀ x : Fin 256, bits BinOp.and IntKind.i32 ((x.val : Nat) : Int) 31 = ((headN 2 x.val : Nat) : Int) := by decide +kernel
  exact H ⟨c, h⟩
theorem and15 (c : Nat) (h : c < 256) : bits BinOp.and IntKind.i32 (c : Int) 15 = ((headN 3 c : Nat) : Int) := by
  have H : ∀ x : Fin 256, bits BinOp.and IntKind.i32 ((x.val : Nat) : Int) 15 = ((headN 3 x.val : Nat) : Int) := by decide +kernel
  exact H ⟨c, h⟩
theorem and7 (c : Nat) (h : c < 256) : bits BinOp.and IntKind.i32 (c : Int) 7 = ((headN 4 c : Nat) : Int) := by
  have H : ∀ x : Fin 256, bits BinOp.and IntKind.i32 ((x.val : Nat) : Int) 7 = ((headN 4 x.val : Nat) : Int) := by decide +kernel
  exact H ⟨c, h⟩

end Go.Proofs.Ytbkhdjbhijmghaa
