/- math/bits: Mul64, LeadingZeros64, Len64 off the shelf (laid in plain words by the shelf's own tool); Add64, Sub64, Div64 by ten. -/
import Derived.Shelf.Small.Bits
import Derived.Shelf.Strconv.Itoa0
import Derived.Shelf.Bits.Mul64
import Derived.Shelf.Spec.BitsCarry
import Derived.Test.YtbkhdjbhijmghaaBase
namespace Go.Proofs.Ytbkhdjbhijmghaa
open Go.Shelf Go.RowKit
def lays264_ren : Go.Shelf.Ren := ⟨fun | 264 => 61 | n => n, fun | 53 => 56 | 46 => 86 | n => n, fun | n => n⟩
theorem lays264 : Go.Proofs.Lays.n264 Try.prog lays264_ren := {
  mixed := by kernel_rfl
  f264 := Try.func61.trans (congrArg some (by kernel_rfl))
  t46 := Try.underlying86
  a46 := Try.isAgg86
  z46 := Try.sizeOf86
  v46 := Try.zeroValue86
  t53 := Try.underlying56
  a53 := Try.isAgg56
  z53 := Try.sizeOf56
  v53 := Try.zeroValue56 }
open Go.RowKit Go.Lib in
theorem bits_Mul64 (x y : Nat) (hx : x < 18446744073709551616) (hy : y < 18446744073709551616) (w : World) :
    Calls Try.prog 61 #[.int .u64 x, .int .u64 y] w fun e w' => e = .returned (.tuple #[.int .u64 ((x * y / 18446744073709551616 : Nat) : Int), .int .u64 ((x * y % 18446744073709551616 : Nat) : Int)]) ∧ w' = w := Any.bits_Mul64 lays264 x y hx hy w

/-- 2^64. -/
def W64 : Nat := 18446744073709551616

theorem Mul64_at (x y hi lo : Nat) (hx : x < W64) (hy : y < W64) (h : x * y = hi * W64 + lo) (hl : lo < W64) (w : World) :
    Calls Try.prog 61 #[.int .u64 x, .int .u64 y] w fun e w' => e = .returned (.tuple #[.int .u64 (hi : Int), .int .u64 (lo : Int)]) ∧ w = w' := by
  have e1 : x * y / 18446744073709551616 = hi := by rw [h]; unfold W64 at *; omega
  have e2 : x * y % 18446744073709551616 = lo := by rw [h]; unfold W64 at *; omega
  refine (bits_Mul64 x y hx hy w).mono ?_
  rintro e w' ⟨he, hw⟩
  rw [e1, e2] at he
  exact ⟨he, hw.symm⟩

theorem Add64_at (x y c s d : Nat) (hc : c ≤ 1) (h : x + y + c = d * W64 + s) (hs : s < W64) (w : World) :
    (callFunc 62 #[.int .u64 x, .int .u64 y, .int .u64 c]).run Try.prog w = .ok (.value (.tuple #[.int .u64 (s : Int), .int .u64 (d : Int)])) w := by
  have e1 : (x + y + c) % 18446744073709551616 = s := by rw [h]; unfold W64 at *; omega
  have e2 : (x + y + c) / 18446744073709551616 = d := by rw [h]; unfold W64 at *; omega
  rw [run_callFunc_extern Try.func62 (by kernel_rfl) (by kernel_rfl) (by kernel_rfl) (e := add64Entry) (by kernel_rfl), run_add64 x y c (by omega) (by omega) (by omega) (by omega)]
  simp only [Result.andThen]
  rw [← e1, ← e2]
  congr 5 <;> omega

end Go.Proofs.Ytbkhdjbhijmghaa
