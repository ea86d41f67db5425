/- The walks of math/bits.Div64 by ten, sum.wide's tenth, power. -/
import Derived.Test.YtiancppdcfahaaaDoorWideC
import Derived.Laws.Bits64b
namespace Go.Proofs.YtiancppdcfahaaaDoor
open Go.RowKit

theorem splitAt (n c : Nat) (h : 0 < c) : ∃ q r : Nat, n = q * c + r ∧ r < c := ⟨n / c, n % c, by rw [Nat.mul_comm]; exact (Nat.div_add_mod n c).symm, Nat.mod_lt _ h⟩
theorem div_q1 {U q1 r1 : Nat} (h : U = q1 * 2684354560 + r1) (hr : r1 < 2684354560) (hq : q1 < 4294967296) : IntKind.u64.wrap ((U : Int) / 2684354560) = (q1 : Int) := by
  rw [IntKind.wrap_u64]; omega
theorem div_r1 {U q1 r1 : Nat} (h : U = q1 * 2684354560 + r1) (hr : r1 < 2684354560) (_hq : q1 < 4294967296) : IntKind.u64.wrap ((U : Int) - (q1 : Int) * 2684354560) = (r1 : Int) := by
  rw [IntKind.wrap_u64]; omega
theorem div_T {U q1 r1 V T : Nat} (h : U = q1 * 2684354560 + r1) (hT : T = r1 * 4294967296 + V) (hV : V < 4294967296) (hr : r1 < 2684354560) :
    IntKind.u64.wrap (IntKind.u64.wrap ((U : Int) * 4294967296 + (V : Int)) - IntKind.u64.wrap ((q1 : Int) * 11529215046068469760)) = (T : Int) := by
  rw [IntKind.wrap_u64, IntKind.wrap_u64, IntKind.wrap_u64, ← Int.sub_emod, show (U : Int) * 4294967296 + (V : Int) - (q1 : Int) * 11529215046068469760 = (T : Int) from by omega]; omega
theorem div_R {T q0 r0 r R : Nat} (h : T = q0 * 2684354560 + r0) (fr : r0 = r * 268435456) (hr : r < 10) (eR : R = r * 1152921504606846976) :
    IntKind.u64.wrap (IntKind.u64.wrap (IntKind.u64.wrap ((T : Int) * 4294967296)) - IntKind.u64.wrap ((q0 : Int) * 11529215046068469760)) / 1152921504606846976 = (r : Int) := by
  rw [IntKind.wrap_u64, IntKind.wrap_u64, IntKind.wrap_u64, IntKind.wrap_u64, Int.emod_emod, ← Int.sub_emod, show (T : Int) * 4294967296 - (q0 : Int) * 11529215046068469760 = (R : Int) from by omega]; omega
theorem q_cast {q q1 q0 : Nat} (h : q = q1 * 4294967296 + q0) : (q1 : Int) * 4294967296 + (q0 : Int) = (q : Int) := by omega
theorem div_U {hi lo U : Nat} (eU : U = hi * 1152921504606846976 + lo / 16) (h0 : hi < 10) (h1 : lo < 18446744073709551616) : bits BinOp.or IntKind.u64 ((hi : Int) * 1152921504606846976) ((lo : Int) / 16) = (U : Int) := by
  have := bits_or_u64_nat (hi * 1152921504606846976) (lo / 16) (by omega) (by omega)
  rw [show ((hi : Int) * 1152921504606846976) = ((hi * 1152921504606846976 : Nat) : Int) from (Int.natCast_mul hi 1152921504606846976).symm, show ((lo : Int) / 16) = ((lo / 16 : Nat) : Int) from (Int.natCast_ediv lo 16).symm, this, eU]
  have h2 := Nat.two_pow_add_eq_or_of_lt (i := 60) (b := lo / 16) (by omega) hi
  rw [Nat.mul_comm] at h2
  exact congrArg (fun n : Nat => (n : Int)) h2.symm
theorem div_L {L V : Nat} (eL : L = V * 4294967296) (hV : V < 4294967296) : bits BinOp.and IntKind.u64 (L : Int) 4294967295 = 0 := by
  have := bits_and_u64_nat L 4294967295 (by omega) (by omega)
  have h2 : L &&& (2 ^ 32 - 1) = L % 2 ^ 32 := Nat.and_two_pow_sub_one_eq_mod L 32
  have h3 : L &&& 4294967295 = 0 := by
    have h4 : L % 2 ^ 32 = 0 := by rw [eL]; exact Nat.mul_mod_left V 4294967296
    exact h2.trans h4
  rw [h3] at this
  exact this
theorem div_all {hi lo q r U V q1 r1 T q0 r0 : Nat} (he : hi * 18446744073709551616 + lo = q * 10 + r) (hr : r < 10) (_h1 : lo < 18446744073709551616)
    (eU : U = hi * 1152921504606846976 + lo / 16) (eV : V = lo % 16 * 268435456) (eU' : U = q1 * 2684354560 + r1) (eT : T = r1 * 4294967296 + V) (eT' : T = q0 * 2684354560 + r0) (hr0 : r0 < 2684354560) :
    q = q1 * 4294967296 + q0 ∧ r0 = r * 268435456 := by omega

theorem ext_setCell {a w : World} (h : Ext a w) {p : Addr} (hp : a.heap.size ≤ p.block) (u : Value) : Ext a (w.setCell p u) := Below.setCell h hp u

/-- Words, the greatest first, divided by ten: tenth. -/
theorem split10 (n : Nat) : ∃ q r : Nat, n = q * 10 + r ∧ r < 10 := splitAt n 10 (by omega)

end Go.Proofs.YtiancppdcfahaaaDoor
