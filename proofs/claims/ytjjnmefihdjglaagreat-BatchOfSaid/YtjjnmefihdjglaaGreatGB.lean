import Derived.Shelf.Small.Bits
import Derived.Shelf.Strconv.Itoa0
import Derived.Shelf.Bits.Mul64
import Derived.Shelf.Spec.BitsCarry
import Derived.Test.YtjjnmefihdjglaaGreatGA
import Derived.StillTailTactics
import Derived.Deep.AppendLies
import Derived.Laws.Bits64b
import Derived.Lib.FrozenHead
namespace Go.Proofs.YtjjnmefihdjglaaGreat
open Go.Shelf Go.RowKit
def lays264_ren : Go.Shelf.Ren := ⟨fun | 264 => 144 | n => n, fun | 53 => 136 | 46 => 148 | n => n, fun | n => n⟩
theorem lays264 : Go.Proofs.Lays.n264 Tryz.prog lays264_ren := {
 mixed := by kernel_rfl
 f264 := Tryz.func144.trans (congrArg some (by kernel_rfl))
 t46 := Tryz.underlying148
 a46 := Tryz.isAgg148
 z46 := Tryz.sizeOf148
 v46 := Tryz.zeroValue148
 t53 := Tryz.underlying136
 a53 := Tryz.isAgg136
 z53 := Tryz.sizeOf136
 v53 := Tryz.zeroValue136 }
open Go.RowKit Go.Lib in
theorem bits_Mul64 (x y : Nat) (hx : x < 18446744073709551616) (hy : y < 18446744073709551616) (w : World) :
  Calls Tryz.prog 144 #[.int .u64 x, .int .u64 y] w fun e w' => e = .returned (.tuple #[.int .u64 ((x * y / 18446744073709551616 : Nat) : Int), .int .u64 ((x * y % 18446744073709551616 : Nat) : Int)]) ∧ w' = w := Any.bits_Mul64 lays264 x y hx hy w
def W64 : Nat := 18446744073709551616
theorem Mul64_at (x y hi lo : Nat) (hx : x < W64) (hy : y < W64) (h : x * y = hi * W64 + lo) (hl : lo < W64) (w : World) :
  Calls Tryz.prog 144 #[.int .u64 x, .int .u64 y] w fun e w' => e = .returned (.tuple #[.int .u64 (hi : Int), .int .u64 (lo : Int)]) ∧ w = w' := by
 have e1 : x * y / 18446744073709551616 = hi := by rw [h]; unfold W64 at *; omega
 have e2 : x * y % 18446744073709551616 = lo := by rw [h]; unfold W64 at *; omega
 refine (bits_Mul64 x y hx hy w).mono ?_
 rintro e w' ⟨he, hw⟩
 rw [e1, e2] at he
 exact ⟨he, hw.symm⟩
theorem Add64_at (x y c s d : Nat) (hc : c ≤ 1) (h : x + y + c = d * W64 + s) (hs : s < W64) (w : World) :
  (callFunc 145 #[.int .u64 x, .int .u64 y, .int .u64 c]).run Tryz.prog w = .ok (.value (.tuple #[.int .u64 (s : Int), .int .u64 (d : Int)])) w := by
 have e1 : (x + y + c) % 18446744073709551616 = s := by rw [h]; unfold W64 at *; omega
 have e2 : (x + y + c) / 18446744073709551616 = d := by rw [h]; unfold W64 at *; omega
 rw [run_callFunc_extern Tryz.func145 (by kernel_rfl) (by kernel_rfl) (by kernel_rfl) (e := add64Entry) (by kernel_rfl), run_add64 x y c (by omega) (by omega) (by omega) (by omega)]
 simp only [Result.andThen]
 rw [← e1, ← e2]
 congr 5 <;> omega
end Go.Proofs.YtjjnmefihdjglaaGreat
namespace Go.Proofs.YtjjnmefihdjglaaGreat
def val4 (a b c d : Nat) : Nat := a + b * 18446744073709551616 + c * 340282366920938463463374607431768211456 + d * 6277101735386680763835789423207666416102355444464034512896
def wd (N i : Nat) : Nat := N / 18446744073709551616 ^ i % 18446744073709551616
def W256 : Nat := 115792089237316195423570985008687907853269984665640564039457584007913129639936
theorem wd_lt (N i : Nat) : wd N i < W64 := Nat.mod_lt _ (by decide)
theorem wd0 (N : Nat) : wd N 0 = N % 18446744073709551616 := by unfold wd; rw [Nat.pow_zero, Nat.div_one]
theorem wd1 (N : Nat) : wd N 1 = N / 18446744073709551616 % 18446744073709551616 := by unfold wd; rw [Nat.pow_one]
theorem wd2 (N : Nat) : wd N 2 = N / 340282366920938463463374607431768211456 % 18446744073709551616 := by
 unfold wd; rw [show (18446744073709551616 : Nat) ^ 2 = 340282366920938463463374607431768211456 from by decide]
theorem wd3 (N : Nat) : wd N 3 = N / 6277101735386680763835789423207666416102355444464034512896 % 18446744073709551616 := by
 unfold wd; rw [show (18446744073709551616 : Nat) ^ 3 = 6277101735386680763835789423207666416102355444464034512896 from by decide]
theorem val4_wd (N : Nat) (h : N < W256) : val4 (wd N 0) (wd N 1) (wd N 2) (wd N 3) = N := by
 rw [wd0, wd1, wd2, wd3]; unfold val4 W256 at *; omega
theorem wd_val4 {a b c d : Nat} (ha : a < W64) (hb : b < W64) (hc : c < W64) (hd : d < W64) :
  wd (val4 a b c d) 0 = a ∧ wd (val4 a b c d) 1 = b ∧ wd (val4 a b c d) 2 = c ∧ wd (val4 a b c d) 3 = d := by
 rw [wd0, wd1, wd2, wd3]; unfold val4 W64 at *
 refine ⟨?_, ?_, ?_, ?_⟩ <;> omega
theorem val4_lt {a b c d : Nat} (ha : a < W64) (hb : b < W64) (hc : c < W64) (hd : d < W64) : val4 a b c d < W256 := by
 unfold val4 W64 W256 at *; omega
theorem expand4 (a b c d n X Y Z : Nat) : (a + b * X + c * Y + d * Z) * n = a * n + b * n * X + c * n * Y + d * n * Z := by
 rw [Nat.add_mul, Nat.add_mul, Nat.add_mul, Nat.mul_right_comm b, Nat.mul_right_comm c, Nat.mul_right_comm d]
theorem times_arith {a b c d n a1 a0 b1 b0 c1 c0 d1 d0 s0 s1 s2 s3 k0 k1 k2 k3 : Nat}
  (ha : a * n = a1 * W64 + a0) (hb : b * n = b1 * W64 + b0) (hc : c * n = c1 * W64 + c0) (hd : d * n = d1 * W64 + d0)
  (e0 : a0 + 0 + 0 = k0 * W64 + s0) (e1 : b0 + (a1 + k0) + 0 = k1 * W64 + s1) (e2 : c0 + (b1 + k1) + 0 = k2 * W64 + s2) (e3 : d0 + (c1 + k2) + 0 = k3 * W64 + s3) :
  val4 a b c d * n = val4 s0 s1 s2 s3 + (d1 + k3) * W256 := by
 have h : val4 a b c d * n = a * n + b * n * 18446744073709551616 + c * n * 340282366920938463463374607431768211456 + d * n * 6277101735386680763835789423207666416102355444464034512896 := by
  exact expand4 a b c d n _ _ _
 rw [h, ha, hb, hc, hd]
 unfold val4 W64 W256 at *; omega
theorem plus_arith {a b c d x y z t s0 s1 s2 s3 k0 k1 k2 k3 : Nat} (e0 : a + x + 0 = k0 * W64 + s0) (e1 : b + y + k0 = k1 * W64 + s1) (e2 : c + z + k1 = k2 * W64 + s2) (e3 : d + t + k2 = k3 * W64 + s3) :
  val4 a b c d + val4 x y z t = val4 s0 s1 s2 s3 + k3 * W256 := by
 unfold val4 W64 W256 at *; omega
theorem minus_arith {a b c d x y z t s0 s1 s2 s3 k0 k1 k2 k3 : Nat} (e0 : a + k0 * W64 = s0 + x + 0) (e1 : b + k1 * W64 = s1 + y + k0) (e2 : c + k2 * W64 = s2 + z + k1) (e3 : d + k3 * W64 = s3 + t + k2) :
  val4 a b c d + k3 * W256 = val4 s0 s1 s2 s3 + val4 x y z t := by
 unfold val4 W64 W256 at *; omega
theorem tenth_arith {a b c d q0 q1 q2 q3 r0 r1 r2 r3 : Nat} (e3 : d = q3 * 10 + r3) (e2 : r3 * W64 + c = q2 * 10 + r2) (e1 : r2 * W64 + b = q1 * 10 + r1) (e0 : r1 * W64 + a = q0 * 10 + r0) :
  val4 a b c d = val4 q0 q1 q2 q3 * 10 + r0 := by
 unfold val4 W64 at *; omega
end Go.Proofs.YtjjnmefihdjglaaGreat
namespace Go.Proofs.YtjjnmefihdjglaaGreat
open Go.RowKit
def wideV (N : Nat) : Value := .agg #[.int .u64 (wd N 0 : Int), .int .u64 (wd N 1 : Int), .int .u64 (wd N 2 : Int), .int .u64 (wd N 3 : Int)]
theorem wideV_val4 {a b c d : Nat} (ha : a < W64) (hb : b < W64) (hc : c < W64) (hd : d < W64) : wideV (val4 a b c d) = .agg #[.int .u64 (a : Int), .int .u64 (b : Int), .int .u64 (c : Int), .int .u64 (d : Int)] := by
 obtain ⟨h0, h1, h2, h3⟩ := wd_val4 ha hb hc hd
 unfold wideV; rw [h0, h1, h2, h3]
set_option maxRecDepth 100000 in
theorem of_any (n : Nat) (w : World) (hn : n < W64) :
  Calls Tryz.prog 132 #[.int .u64 n] w fun e w' => e = .returned (wideV n) ∧ Ext w w' := by
 have hv : wideV n = .agg #[.int .u64 (n : Int), .int .u64 0, .int .u64 0, .int .u64 0] := by
  have := wideV_val4 (a := n) (b := 0) (c := 0) (d := 0) hn (by decide) (by decide) (by decide)
  rw [show val4 n 0 0 0 = n from by unfold val4; omega] at this
  exact this
 have HV := Lib.hid hv
 clear hv
 go_enter Tryz.func132, Tryz.ntmps132
 go_wp2
 rw [HV.out]
 exact bodyPost_ret (v := .agg #[.int .u64 (n : Int), .int .u64 0, .int .u64 0, .int .u64 0]) (by simp [results, Tryz.results132, go_sem]) rfl ⟨rfl, (Ext.refl _).alloc _⟩
set_option maxRecDepth 100000 in
theorem abs_any (m : Int) (w : World) (h : -9223372036854775808 ≤ m ∧ m ≤ 9223372036854775807) :
  Calls Tryz.prog 133 #[.int .i64 m] w fun e w' => e = .returned (.int .u64 (m.natAbs : Int)) ∧ w = w' := by
 by_cases h0 : m < 0
 ·go_enter Tryz.func133, Tryz.ntmps133
  go_wp2
  go_ret
  exact ⟨retI (by rw [IntKind.wrap_u64, IntKind.wrap_u64]; omega), rfl⟩
 ·go_enter Tryz.func133, Tryz.ntmps133
  go_wp2
  go_ret
  exact ⟨retI (by omega), rfl⟩
theorem split64 (n : Nat) : ∃ q r : Nat, n = q * W64 + r ∧ r < W64 := ⟨n / W64, n % W64, by unfold W64; omega, Nat.mod_lt _ (by decide)⟩
theorem mul_hi {a n hi lo : Nat} (ha : a < W64) (hn : n < W64) (h : a * n = hi * W64 + lo) : hi + 2 ≤ W64 := by
 have h1 : a * n ≤ (W64 - 1) * (W64 - 1) := Nat.mul_le_mul (by omega) (by omega)
 have h2 : (W64 - 1) * (W64 - 1) = (W64 - 2) * W64 + 1 := by decide
 have h3 : hi * W64 < (W64 - 1) * W64 := by
  have h4 : (W64 - 1) * W64 = (W64 - 2) * W64 + W64 := by decide
  have h5 : W64 = 18446744073709551616 := rfl
  omega
 have := Nat.lt_of_mul_lt_mul_right h3
 have h5 : W64 = 18446744073709551616 := rfl
 omega
theorem carry_le {x y k s : Nat} (hx : x < W64) (hy : y < W64) (h : x + y + 0 = k * W64 + s) : k ≤ 1 := by unfold W64 at *; omega
set_option maxHeartbeats 2000000 in
set_option maxRecDepth 100000 in
theorem times_any (N n : Nat) (w : World) (hN : N < W256) (hn : n < W64) (hp : N * n < W256) :
  Calls Tryz.prog 140 #[wideV N, .int .u64 n] w fun e w' => e = .returned (wideV (N * n)) ∧ Ext w w' := by
 have hv := val4_wd N hN
 have l0 := wd_lt N 0
 have l1 := wd_lt N 1
 have l2 := wd_lt N 2
 have l3 := wd_lt N 3
 have hW : wideV N = .agg #[.int .u64 (wd N 0 : Int), .int .u64 (wd N 1 : Int), .int .u64 (wd N 2 : Int), .int .u64 (wd N 3 : Int)] := rfl
 rw [hW]
 clear hW
 generalize wd N 0 = a at *
 generalize wd N 1 = b at *
 generalize wd N 2 = c at *
 generalize wd N 3 = d at *
 obtain ⟨a1, a0, ha, ha0⟩ := split64 (a * n)
 obtain ⟨b1, b0, hb, hb0⟩ := split64 (b * n)
 obtain ⟨c1, c0, hc, hc0⟩ := split64 (c * n)
 obtain ⟨d1, d0, hd, hd0⟩ := split64 (d * n)
 have ta := mul_hi l0 hn ha
 have tb := mul_hi l1 hn hb
 have tc := mul_hi l2 hn hc
 have td := mul_hi l3 hn hd
 obtain ⟨k0, s0, e0, hs0⟩ := split64 (a0 + 0 + 0)
 have hk0 := carry_le ha0 (show 0 < W64 by decide) e0
 obtain ⟨k1, s1, e1, hs1⟩ := split64 (b0 + (a1 + k0) + 0)
 have hk1 := carry_le hb0 (show a1 + k0 < W64 by omega) e1
 obtain ⟨k2, s2, e2, hs2⟩ := split64 (c0 + (b1 + k1) + 0)
 have hk2 := carry_le hc0 (show b1 + k1 < W64 by omega) e2
 obtain ⟨k3, s3, e3, hs3⟩ := split64 (d0 + (c1 + k2) + 0)
 have hk3 := carry_le hd0 (show c1 + k2 < W64 by omega) e3
 have HT := Lib.hid (times_arith ha hb hc hd e0 e1 e2 e3)
 have M0 := Mul64_at a n a1 a0 l0 hn ha ha0
 have M1 := Mul64_at b n b1 b0 l1 hn hb hb0
 have M2 := Mul64_at c n c1 c0 l2 hn hc hc0
 have M3 := Mul64_at d n d1 d0 l3 hn hd hd0
 have A0 := Add64_at a0 0 0 s0 k0 (by omega) e0 hs0
 have A1 := Add64_at b0 (a1 + k0) 0 s1 k1 (by omega) e1 hs1
 have A2 := Add64_at c0 (b1 + k1) 0 s2 k2 (by omega) e2 hs2
 have A3 := Add64_at d0 (c1 + k2) 0 s3 k3 (by omega) e3 hs3
 have hres : Hid (wideV (N * n) = .agg #[.int .u64 (s0 : Int), .int .u64 (s1 : Int), .int .u64 (s2 : Int), .int .u64 (s3 : Int)]) := by
  have h := HT.out
  rw [hv] at h
  have hz : d1 + k3 = 0 := by
   have := val4_lt hs0 hs1 hs2 hs3
   unfold W256 at *; omega
  rw [hz, Nat.zero_mul, Nat.add_zero] at h
  unfold Hid
  rw [h, wideV_val4 hs0 hs1 hs2 hs3]
 have HV := Lib.hid hv
 clear hv ha hb hc hd e0 e1 e2 e3 ha0 hb0 hc0 hd0 hs0 hs1 hs2 hs3
 push_cast at A0 A1 A2 A3
 unfold W64 at *
 go_enter Tryz.func140, Tryz.ntmps140
 go_wp2_with fail
 refine wp_loop_rounds 5 ?_
 rw [rounds_succ]
 go_wp2_with fail
 refine (M0 _).mono ?_
 rintro e w1 ⟨rfl, rfl⟩
 go_wp2_with fail
 rw [rounds_succ]
 go_wp2_with fail
 refine (M1 _).mono ?_
 rintro e w1 ⟨rfl, rfl⟩
 go_wp2_with fail
 rw [rounds_succ]
 go_wp2_with fail
 refine (M2 _).mono ?_
 rintro e w1 ⟨rfl, rfl⟩
 go_wp2_with fail
 rw [rounds_succ]
 go_wp2_with fail
 refine (M3 _).mono ?_
 rintro e w1 ⟨rfl, rfl⟩
 go_wp2_with fail
 rw [rounds_succ]
 go_wp2_with fail
 rw [hres.out]
 exact bodyPost_ret (v := .agg #[.int .u64 (s0 : Int), .int .u64 (s1 : Int), .int .u64 (s2 : Int), .int .u64 (s3 : Int)]) (by simp [results, Tryz.results140, go_sem]) rfl ⟨rfl, ((Ext.refl _).alloc _).alloc _⟩
end Go.Proofs.YtjjnmefihdjglaaGreat
namespace Go.Proofs.YtjjnmefihdjglaaGreat
open Go.RowKit
theorem sub_split {a x k' : Nat} (ha : a < W64) (hx : x < W64) (hk : k' ≤ 1) : ∃ k s : Nat, a + k * W64 = s + x + k' ∧ s < W64 ∧ k ≤ 1 := by
 by_cases h : x + k' ≤ a
 ·exact ⟨0, a - x - k', by omega, by omega, by omega⟩
 ·exact ⟨1, a + W64 - x - k', by unfold W64 at *; omega, by unfold W64 at *; omega, by omega⟩
end Go.Proofs.YtjjnmefihdjglaaGreat
namespace Go.Proofs.YtjjnmefihdjglaaGreat
open Go.RowKit
def cmpN (A B : Nat) : Int := if A < B then -1 else if A > B then 1 else 0
theorem cmpN_lt {A B : Nat} (h : A < B) : cmpN A B = -1 := if_pos h
theorem cmpN_gt {A B : Nat} (h : A > B) : cmpN A B = 1 := by unfold cmpN; rw [if_neg (by omega), if_pos h]
theorem cmpN_eq (A : Nat) : cmpN A A = 0 := by unfold cmpN; rw [if_neg (by omega), if_neg (by omega)]
set_option maxHeartbeats 4000000 in
set_option maxRecDepth 100000 in
theorem compare_any (A B : Nat) (w : World) (hA : A < W256) (hB : B < W256) :
  Calls Tryz.prog 135 #[wideV A, wideV B] w fun e w' => e = .returned (.int .i64 (cmpN A B)) ∧ Ext w w' := by
 have hv := val4_wd A hA
 have l0 := wd_lt A 0
 have l1 := wd_lt A 1
 have l2 := wd_lt A 2
 have l3 := wd_lt A 3
 have hv' := val4_wd B hB
 have m0 := wd_lt B 0
 have m1 := wd_lt B 1
 have m2 := wd_lt B 2
 have m3 := wd_lt B 3
 have hW : wideV A = .agg #[.int .u64 (wd A 0 : Int), .int .u64 (wd A 1 : Int), .int .u64 (wd A 2 : Int), .int .u64 (wd A 3 : Int)] := rfl
 have hW' : wideV B = .agg #[.int .u64 (wd B 0 : Int), .int .u64 (wd B 1 : Int), .int .u64 (wd B 2 : Int), .int .u64 (wd B 3 : Int)] := rfl
 rw [hW, hW']
 clear hW hW'
 generalize wd A 0 = a at *
 generalize wd A 1 = b at *
 generalize wd A 2 = c at *
 generalize wd A 3 = d at *
 generalize wd B 0 = x at *
 generalize wd B 1 = y at *
 generalize wd B 2 = z at *
 generalize wd B 3 = t at *
 have hcmp : Hid (cmpN A B = cmpN (val4 a b c d) (val4 x y z t)) := Lib.hid (by rw [hv, hv'])
 clear hv hv'
 by_cases c3lt : d < t
 ·have H := Lib.hid (hcmp.out.trans (cmpN_lt (by unfold val4 W64 at *; omega)))
  clear hcmp
  unfold W64 at *
  go_enter Tryz.func135, Tryz.ntmps135
  go_wp2_with fail
  refine wp_loop_rounds 5 ?_
  rw [rounds_succ]
  go_wp2_with fail
  go_quiet (fail)
  go_wp2_with fail
  go_ret
  exact ⟨retI H.out.symm, by repeat (first | apply Ext.drewN | apply Ext.alloc | exact Ext.refl _)⟩
 by_cases c3gt : t < d
 ·have H := Lib.hid (hcmp.out.trans (cmpN_gt (by unfold val4 W64 at *; omega)))
  clear hcmp
  unfold W64 at *
  go_enter Tryz.func135, Tryz.ntmps135
  go_wp2_with fail
  refine wp_loop_rounds 5 ?_
  rw [rounds_succ]
  go_wp2_with fail
  go_quiet (fail)
  go_wp2_with fail
  go_quiet (fail)
  go_wp2_with fail
  go_ret
  exact ⟨retI H.out.symm, by repeat (first | apply Ext.drewN | apply Ext.alloc | exact Ext.refl _)⟩
 obtain rfl : d = t := by omega
 clear c3lt c3gt
 by_cases c2lt : c < z
 ·have H := Lib.hid (hcmp.out.trans (cmpN_lt (by unfold val4 W64 at *; omega)))
  clear hcmp
  unfold W64 at *
  go_enter Tryz.func135, Tryz.ntmps135
  go_wp2_with fail
  refine wp_loop_rounds 5 ?_
  rw [rounds_succ]
  go_wp2_with fail
  go_quiet (fail)
  go_wp2_with fail
  go_quiet (fail)
  go_wp2_with fail
  rw [rounds_succ]
  go_wp2_with fail
  go_quiet (fail)
  go_wp2_with fail
  go_ret
  exact ⟨retI H.out.symm, by repeat (first | apply Ext.drewN | apply Ext.alloc | exact Ext.refl _)⟩
 by_cases c2gt : z < c
 ·have H := Lib.hid (hcmp.out.trans (cmpN_gt (by unfold val4 W64 at *; omega)))
  clear hcmp
  unfold W64 at *
  go_enter Tryz.func135, Tryz.ntmps135
  go_wp2_with fail
  refine wp_loop_rounds 5 ?_
  rw [rounds_succ]
  go_wp2_with fail
  go_quiet (fail)
  go_wp2_with fail
  go_quiet (fail)
  go_wp2_with fail
  rw [rounds_succ]
  go_wp2_with fail
  go_quiet (fail)
  go_wp2_with fail
  go_quiet (fail)
  go_wp2_with fail
  go_ret
  exact ⟨retI H.out.symm, by repeat (first | apply Ext.drewN | apply Ext.alloc | exact Ext.refl _)⟩
 obtain rfl : c = z := by omega
 clear c2lt c2gt
 by_cases c1lt : b < y
 ·have H := Lib.hid (hcmp.out.trans (cmpN_lt (by unfold val4 W64 at *; omega)))
  clear hcmp
  unfold W64 at *
  go_enter Tryz.func135, Tryz.ntmps135
  go_wp2_with fail
  refine wp_loop_rounds 5 ?_
  rw [rounds_succ]
  go_wp2_with fail
  go_quiet (fail)
  go_wp2_with fail
  go_quiet (fail)
  go_wp2_with fail
  rw [rounds_succ]
  go_wp2_with fail
  go_quiet (fail)
  go_wp2_with fail
  go_quiet (fail)
  go_wp2_with fail
  rw [rounds_succ]
  go_wp2_with fail
  go_quiet (fail)
  go_wp2_with fail
  go_ret
  exact ⟨retI H.out.symm, by repeat (first | apply Ext.drewN | apply Ext.alloc | exact Ext.refl _)⟩
 by_cases c1gt : y < b
 ·have H := Lib.hid (hcmp.out.trans (cmpN_gt (by unfold val4 W64 at *; omega)))
  clear hcmp
  unfold W64 at *
  go_enter Tryz.func135, Tryz.ntmps135
  go_wp2_with fail
  refine wp_loop_rounds 5 ?_
  rw [rounds_succ]
  go_wp2_with fail
  go_quiet (fail)
  go_wp2_with fail
  go_quiet (fail)
  go_wp2_with fail
  rw [rounds_succ]
  go_wp2_with fail
  go_quiet (fail)
  go_wp2_with fail
  go_quiet (fail)
  go_wp2_with fail
  rw [rounds_succ]
  go_wp2_with fail
  go_quiet (fail)
  go_wp2_with fail
  go_quiet (fail)
  go_wp2_with fail
  go_ret
  exact ⟨retI H.out.symm, by repeat (first | apply Ext.drewN | apply Ext.alloc | exact Ext.refl _)⟩
 obtain rfl : b = y := by omega
 clear c1lt c1gt
 by_cases c0lt : a < x
 ·have H := Lib.hid (hcmp.out.trans (cmpN_lt (by unfold val4 W64 at *; omega)))
  clear hcmp
  unfold W64 at *
  go_enter Tryz.func135, Tryz.ntmps135
  go_wp2_with fail
  refine wp_loop_rounds 5 ?_
  rw [rounds_succ]
  go_wp2_with fail
  go_quiet (fail)
  go_wp2_with fail
  go_quiet (fail)
  go_wp2_with fail
  rw [rounds_succ]
  go_wp2_with fail
  go_quiet (fail)
  go_wp2_with fail
  go_quiet (fail)
  go_wp2_with fail
  rw [rounds_succ]
  go_wp2_with fail
  go_quiet (fail)
  go_wp2_with fail
  go_quiet (fail)
  go_wp2_with fail
  rw [rounds_succ]
  go_wp2_with fail
  go_quiet (fail)
  go_wp2_with fail
  go_ret
  exact ⟨retI H.out.symm, by repeat (first | apply Ext.drewN | apply Ext.alloc | exact Ext.refl _)⟩
 by_cases c0gt : x < a
 ·have H := Lib.hid (hcmp.out.trans (cmpN_gt (by unfold val4 W64 at *; omega)))
  clear hcmp
  unfold W64 at *
  go_enter Tryz.func135, Tryz.ntmps135
  go_wp2_with fail
  refine wp_loop_rounds 5 ?_
  rw [rounds_succ]
  go_wp2_with fail
  go_quiet (fail)
  go_wp2_with fail
  go_quiet (fail)
  go_wp2_with fail
  rw [rounds_succ]
  go_wp2_with fail
  go_quiet (fail)
  go_wp2_with fail
  go_quiet (fail)
  go_wp2_with fail
  rw [rounds_succ]
  go_wp2_with fail
  go_quiet (fail)
  go_wp2_with fail
  go_quiet (fail)
  go_wp2_with fail
  rw [rounds_succ]
  go_wp2_with fail
  go_quiet (fail)
  go_wp2_with fail
  go_quiet (fail)
  go_wp2_with fail
  go_ret
  exact ⟨retI H.out.symm, by repeat (first | apply Ext.drewN | apply Ext.alloc | exact Ext.refl _)⟩
 obtain rfl : a = x := by omega
 clear c0lt c0gt
 have H := Lib.hid (hcmp.out.trans (cmpN_eq _))
 clear hcmp
 unfold W64 at *
 go_enter Tryz.func135, Tryz.ntmps135
 go_wp2_with fail
 refine wp_loop_rounds 5 ?_
 rw [rounds_succ]
 go_wp2_with fail
 go_quiet (fail)
 go_wp2_with fail
 go_quiet (fail)
 go_wp2_with fail
 rw [rounds_succ]
 go_wp2_with fail
 go_quiet (fail)
 go_wp2_with fail
 go_quiet (fail)
 go_wp2_with fail
 rw [rounds_succ]
 go_wp2_with fail
 go_quiet (fail)
 go_wp2_with fail
 go_quiet (fail)
 go_wp2_with fail
 rw [rounds_succ]
 go_wp2_with fail
 go_quiet (fail)
 go_wp2_with fail
 go_quiet (fail)
 go_wp2_with fail
 rw [rounds_succ]
 go_wp2_with fail
 go_ret
 exact ⟨retI H.out.symm, by repeat (first | apply Ext.drewN | apply Ext.alloc | exact Ext.refl _)⟩
end Go.Proofs.YtjjnmefihdjglaaGreat
namespace Go.Proofs.YtjjnmefihdjglaaGreat
open Go.RowKit
theorem splitAt (n c : Nat) (h : 0 < c) : ∃ q r : Nat, n = q * c + r ∧ r < c := ⟨n / c, n % c, by rw [Nat.mul_comm]; exact (Nat.div_add_mod n c).symm, Nat.mod_lt _ h⟩
theorem div_q1 {U q1 r1 : Nat} (h : U = q1 * 2684354560 + r1) (hr : r1 < 2684354560) (hq : q1 < 4294967296) : IntKind.u64.wrap ((U : Int) / 2684354560) = (q1 : Int) := by
 rw [IntKind.wrap_u64]; omega
theorem div_r1 {U q1 r1 : Nat} (h : U = q1 * 2684354560 + r1) (hr : r1 < 2684354560) (_hq : q1 < 4294967296) : IntKind.u64.wrap ((U : Int) - (q1 : Int) * 2684354560) = (r1 : Int) := by
 rw [IntKind.wrap_u64]; omega
theorem div_T {U q1 r1 V T : Nat} (h : U = q1 * 2684354560 + r1) (hT : T = r1 * 4294967296 + V) (hV : V < 4294967296) (hr : r1 < 2684354560) :
  IntKind.u64.wrap (IntKind.u64.wrap ((U : Int) * 4294967296 + (V : Int)) - IntKind.u64.wrap ((q1 : Int) * 11529215046068469760)) = (T : Int) := by
 rw [IntKind.wrap_u64, IntKind.wrap_u64, IntKind.wrap_u64, ← Int.sub_emod, show (U : Int) * 4294967296 + (V : Int) - (q1 : Int) * 11529215046068469760 = (T : Int) from by omega]; omega
theorem div_R {T q0 r0 r R : Nat} (h : T = q0 * 2684354560 + r0) (fr : r0 = r * 268435456) (hr : r < 10) (eR : R = r * 1152921504606846976) :
  IntKind.u64.wrap (IntKind.u64.wrap (IntKind.u64.wrap ((T : Int) * 4294967296)) - IntKind.u64.wrap ((q0 : Int) * 11529215046068469760)) / 1152921504606846976 = (r : Int) := by
 rw [IntKind.wrap_u64, IntKind.wrap_u64, IntKind.wrap_u64, IntKind.wrap_u64, Int.emod_emod, ← Int.sub_emod, show (T : Int) * 4294967296 - (q0 : Int) * 11529215046068469760 = (R : Int) from by omega]; omega
theorem q_cast {q q1 q0 : Nat} (h : q = q1 * 4294967296 + q0) : (q1 : Int) * 4294967296 + (q0 : Int) = (q : Int) := by omega
theorem div_U {hi lo U : Nat} (eU : U = hi * 1152921504606846976 + lo / 16) (h0 : hi < 10) (h1 : lo < 18446744073709551616) : bits BinOp.or IntKind.u64 ((hi : Int) * 1152921504606846976) ((lo : Int) / 16) = (U : Int) := by
 have := bits_or_u64_nat (hi * 1152921504606846976) (lo / 16) (by omega) (by omega)
 rw [show ((hi : Int) * 1152921504606846976) = ((hi * 1152921504606846976 : Nat) : Int) from (Int.natCast_mul hi 1152921504606846976).symm, show ((lo : Int) / 16) = ((lo / 16 : Nat) : Int) from (Int.natCast_ediv lo 16).symm, this, eU]
 have h2 := Nat.two_pow_add_eq_or_of_lt (i := 60) (b := lo / 16) (by omega) hi
 rw [Nat.mul_comm] at h2
 exact congrArg (fun n : Nat => (n : Int)) h2.symm
theorem div_L {L V : Nat} (eL : L = V * 4294967296) (hV : V < 4294967296) : bits BinOp.and IntKind.u64 (L : Int) 4294967295 = 0 := by
 have := bits_and_u64_nat L 4294967295 (by omega) (by omega)
 have h2 : L &&& (2 ^ 32 - 1) = L % 2 ^ 32 := Nat.and_two_pow_sub_one_eq_mod L 32
 have h3 : L &&& 4294967295 = 0 := by
  have h4 : L % 2 ^ 32 = 0 := by rw [eL]; exact Nat.mul_mod_left V 4294967296
  exact h2.trans h4
 rw [h3] at this
 exact this
theorem div_all {hi lo q r U V q1 r1 T q0 r0 : Nat} (he : hi * 18446744073709551616 + lo = q * 10 + r) (hr : r < 10) (_h1 : lo < 18446744073709551616)
  (eU : U = hi * 1152921504606846976 + lo / 16) (eV : V = lo % 16 * 268435456) (eU' : U = q1 * 2684354560 + r1) (eT : T = r1 * 4294967296 + V) (eT' : T = q0 * 2684354560 + r0) (hr0 : r0 < 2684354560) :
  q = q1 * 4294967296 + q0 ∧ r0 = r * 268435456 := by omega
theorem ext_setCell {a w : World} (h : Ext a w) {p : Addr} (hp : a.heap.size ≤ p.block) (u : Value) : Ext a (w.setCell p u) := Below.setCell h hp u
theorem split10 (n : Nat) : ∃ q r : Nat, n = q * 10 + r ∧ r < 10 := splitAt n 10 (by omega)
end Go.Proofs.YtjjnmefihdjglaaGreat
namespace Go.Proofs.YtjjnmefihdjglaaGreat
open Go.RowKit
def WideIn (b N : Nat) (w : World) : Prop := w.heap[b]? = some (.cells #[.int .u64 (wd N 0 : Int), .int .u64 (wd N 1 : Int), .int .u64 (wd N 2 : Int), .int .u64 (wd N 3 : Int)] 138 (0, 0))
theorem WideIn.ext {b N : Nat} {w w' : World} (h : WideIn b N w) (hk : Ext w w') : WideIn b N w' := (hk.heap (Array.getElem?_eq_some_iff.1 h).1).trans h
theorem WideIn.cells {b N : Nat} {w : World} (h : WideIn b N w) :
  w.cell? ⟨b, 0, none⟩ = some (.int .u64 (wd N 0 : Int)) ∧ w.cell? ⟨b, 1, none⟩ = some (.int .u64 (wd N 1 : Int)) ∧ w.cell? ⟨b, 2, none⟩ = some (.int .u64 (wd N 2 : Int)) ∧ w.cell? ⟨b, 3, none⟩ = some (.int .u64 (wd N 3 : Int)) := by
 refine ⟨?_, ?_, ?_, ?_⟩ <;> (rw [Lib.cell_of_heap h]; rfl)
theorem WideIn.free {b N : Nat} {w : World} (h : WideIn b N w) :
  w.frozen? ⟨b, 0, none⟩ = false ∧ w.frozen? ⟨b, 1, none⟩ = false ∧ w.frozen? ⟨b, 2, none⟩ = false ∧ w.frozen? ⟨b, 3, none⟩ = false :=
 ⟨Lib.frozen_of_heap h 0, Lib.frozen_of_heap h 1, Lib.frozen_of_heap h 2, Lib.frozen_of_heap h 3⟩
def setWide (w : World) (b N : Nat) : World := (((w.setCell ⟨b, 0, none⟩ (.int .u64 (wd N 0 : Int))).setCell ⟨b, 1, none⟩ (.int .u64 (wd N 1 : Int))).setCell ⟨b, 2, none⟩ (.int .u64 (wd N 2 : Int))).setCell ⟨b, 3, none⟩ (.int .u64 (wd N 3 : Int))
theorem WideIn.stored {b N : Nat} {w : World} (h : WideIn b N w) (N' : Nat) : WideIn b N' (setWide w b N') := by
 unfold WideIn at *
 simp [setWide, World.setCell, Array.getElem?_modify, h]
theorem heap_setWide (w : World) (b N k : Nat) (h : k ≠ b) : (setWide w b N).heap[k]? = w.heap[k]? := by
 unfold setWide
 rw [Below.heap_setCell _ _ _ _ h, Below.heap_setCell _ _ _ _ h, Below.heap_setCell _ _ _ _ h, Below.heap_setCell _ _ _ _ h]
theorem ext_setWide {a w : World} (h : Ext a w) {b : Nat} (hb : a.heap.size ≤ b) (N : Nat) : Ext a (setWide w b N) :=
 ext_setCell (ext_setCell (ext_setCell (ext_setCell h hb _) hb _) hb _) hb _
theorem heap_last (w : World) (o : Obj) : (w.alloc o).heap[w.heap.size]? = some o := by
 show (w.heap.push o)[w.heap.size]? = some o
 simp
theorem heap_size_alloc (w : World) (o : Obj) : (w.alloc o).heap.size = w.heap.size + 1 := by
 show (w.heap.push o).size = _
 simp
theorem pow_step {A n k i : Nat} (hn : 0 < n) (h : i ≤ k) (hp : A * n ^ k < W256) : A * n ^ i < W256 :=
 Nat.lt_of_le_of_lt (Nat.mul_le_mul_left _ (Nat.pow_le_pow_right hn h)) hp
set_option maxHeartbeats 2000000 in
set_option maxRecDepth 100000 in
theorem power_any (A n k : Nat) (w : World) (hn0 : 0 < n) (hn : n < W64) (hk : k < 1000) (hp : A * n ^ k < W256) :
  Calls Tryz.prog 134 #[wideV A, .int .u64 n, .int .i64 k] w fun e w' => e = .returned (wideV (A * n ^ k)) ∧ Ext w w' := by
 have hA : A < W256 := by simpa using pow_step (i := 0) hn0 (Nat.zero_le _) hp
 unfold wideV
 go_enter Tryz.func134, Tryz.ntmps134
 go_wp2_with fail
 go_loopw [8] (fun i wr => ∃ i' : Nat, i' ≤ k ∧ i = .int .i64 i' ∧ WideIn w.heap.size (A * n ^ i') wr ∧ WideIn (w.heap.size + 1) 0 wr ∧ Ext w wr) (fun i _ => k - (intOf i).toNat)
 case atStart =>
  refine ⟨0, Nat.zero_le _, rfl, ?_, ?_, ((Ext.refl _).alloc _).alloc _⟩
  ·rw [Nat.pow_zero, Nat.mul_one]
   exact (Below.heap_alloc _ _ _ (by rw [heap_size_alloc]; omega)).trans (heap_last _ _)
  ·unfold WideIn
   have z0 : wd 0 0 = 0 := by decide
   have z1 : wd 0 1 = 0 := by decide
   have z2 : wd 0 2 = 0 := by decide
   have z3 : wd 0 3 = 0 := by decide
   rw [z0, z1, z2, z3, ← heap_size_alloc w]
   exact heap_last _ _
 case round =>
  obtain ⟨i', hi, rfl, h1, h2, hx⟩ := hrel
  obtain ⟨c0, c1, c2, c3⟩ := h1.cells
  by_cases hlt : i' < k
  ·go_wp2_with fail
   refine (times_any (A * n ^ i') n wr (pow_step hn0 hi hp) hn (by have := pow_step (i := i' + 1) hn0 hlt hp; rwa [Nat.pow_succ, ← Nat.mul_assoc] at this)).mono ?_
   rintro e w1 ⟨rfl, x1⟩
   have h1' := h1.ext x1
   have h2' := h2.ext x1
   obtain ⟨d0, d1, d2, d3⟩ := h1'.cells
   obtain ⟨f0, f1, f2, f3⟩ := h1'.free
   clear c0 c1 c2 c3
   unfold wideV
   go_wp2_with fail
   go_roundw
   case rel =>
    refine ⟨i' + 1, hlt, rfl, ?_, ?_, ?_⟩
    ·rw [Nat.pow_succ, ← Nat.mul_assoc]; exact h1'.stored _
    ·exact (heap_setWide _ _ _ _ (by omega)).trans h2'
    ·exact ext_setWide (hx.trans x1) (Nat.le_refl _) _
   case measure => simp only [intOf]; omega
  ·obtain rfl : i' = k := by omega
   obtain ⟨d0, d1, d2, d3⟩ := h2.cells
   obtain ⟨f0, f1, f2, f3⟩ := h2.free
   go_wp2_with fail
   refine bodyPost_ret (v := wideV (A * n ^ i')) ?_ rfl ⟨rfl, ?_⟩
   ·obtain ⟨e0, e1, e2, e3⟩ := (h2.stored (A * n ^ i')).cells
    change (results Tryz.f134 _).run Tryz.prog (setWide wr (w.heap.size + 1) (A * n ^ i')) = .ok _ (setWide wr (w.heap.size + 1) (A * n ^ i'))
    clear d0 d1 d2 d3 f0 f1 f2 f3 c0 c1 c2 c3
    generalize setWide wr (w.heap.size + 1) (A * n ^ i') = W at *
    simp [results, Tryz.results134, go_sem, e0, e1, e2, e3, wideV]
   ·exact ext_setWide hx (Nat.le_succ _) _
end Go.Proofs.YtjjnmefihdjglaaGreat
