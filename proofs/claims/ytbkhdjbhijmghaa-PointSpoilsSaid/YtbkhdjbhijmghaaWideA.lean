/- The walks of sum.of, abs, wide.times. -/
import Derived.Test.YtbkhdjbhijmghaaSpecWide
namespace Go.Proofs.Ytbkhdjbhijmghaa
open Go.RowKit

/-- A number of four words as the value that it is. -/
def wideV (N : Nat) : Value := .agg #[.int .u64 (wd N 0 : Int), .int .u64 (wd N 1 : Int), .int .u64 (wd N 2 : Int), .int .u64 (wd N 3 : Int)]
theorem wideV_val4 {a b c d : Nat} (ha : a < W64) (hb : b < W64) (hc : c < W64) (hd : d < W64) : wideV (val4 a b c d) = .agg #[.int .u64 (a : Int), .int .u64 (b : Int), .int .u64 (c : Int), .int .u64 (d : Int)] := by
  obtain ⟨h0, h1, h2, h3⟩ := wd_val4 ha hb hc hd
  unfold wideV; rw [h0, h1, h2, h3]

set_option maxRecDepth 100000 in
theorem of_any (n : Nat) (w : World) (hn : n < W64) :
    Calls Try.prog 50 #[.int .u64 n] w fun e w' => e = .returned (wideV n) ∧ Ext w w' := by
  have hv : wideV n = .agg #[.int .u64 (n : Int), .int .u64 0, .int .u64 0, .int .u64 0] := by
    have := wideV_val4 (a := n) (b := 0) (c := 0) (d := 0) hn (by decide) (by decide) (by decide)
    rw [show val4 n 0 0 0 = n from by unfold val4; omega] at this
    exact this
  have HV := Lib.hid hv
  clear hv
  go_enter Try.func50, Try.ntmps50
  go_wp2
  rw [HV.out]
  exact bodyPost_ret (v := .agg #[.int .u64 (n : Int), .int .u64 0, .int .u64 0, .int .u64 0]) (by simp [results, Try.results50, go_sem]) rfl ⟨rfl, (Ext.refl _).alloc _⟩

set_option maxRecDepth 100000 in
theorem abs_any (m : Int) (w : World) (h : -9223372036854775808 ≤ m ∧ m ≤ 9223372036854775807) :
    Calls Try.prog 51 #[.int .i64 m] w fun e w' => e = .returned (.int .u64 (m.natAbs : Int)) ∧ w = w' := by
  by_cases h0 : m < 0
  · go_enter Try.func51, Try.ntmps51
    go_wp2
    go_ret
    exact ⟨retI (by rw [IntKind.wrap_u64, IntKind.wrap_u64]; omega), rfl⟩
  · go_enter Try.func51, Try.ntmps51
    go_wp2
    go_ret
    exact ⟨retI (by omega), rfl⟩

/-- A number as so many words and what is over. -/
theorem split64 (n : Nat) : ∃ q r : Nat, n = q * W64 + r ∧ r < W64 := ⟨n / W64, n % W64, by unfold W64; omega, Nat.mod_lt _ (by decide)⟩
theorem mul_hi {a n hi lo : Nat} (ha : a < W64) (hn : n < W64) (h : a * n = hi * W64 + lo) : hi + 2 ≤ W64 := by
  have h1 : a * n ≤ (W64 - 1) * (W64 - 1) := Nat.mul_le_mul (by omega) (by omega)
  have h2 : (W64 - 1) * (W64 - 1) = (W64 - 2) * W64 + 1 := by decide
  have h3 : hi * W64 < (W64 - 1) * W64 := by
    have h4 : (W64 - 1) * W64 = (W64 - 2) * W64 + W64 := by decide
    have h5 : W64 = 18446744073709551616 := rfl
    omega
  have := Nat.lt_of_mul_lt_mul_right h3
  have h5 : W64 = 18446744073709551616 := rfl
  omega
theorem carry_le {x y k s : Nat} (hx : x < W64) (hy : y < W64) (h : x + y + 0 = k * W64 + s) : k ≤ 1 := by unfold W64 at *; omega

set_option maxHeartbeats 2000000 in
set_option maxRecDepth 100000 in
theorem times_any (N n : Nat) (w : World) (hN : N < W256) (hn : n < W64) (hp : N * n < W256) :
    Calls Try.prog 58 #[wideV N, .int .u64 n] w fun e w' => e = .returned (wideV (N * n)) ∧ Ext w w' := by
  have hv := val4_wd N hN
  have l0 := wd_lt N 0
  have l1 := wd_lt N 1
  have l2 := wd_lt N 2
  have l3 := wd_lt N 3
  have hW : wideV N = .agg #[.int .u64 (wd N 0 : Int), .int .u64 (wd N 1 : Int), .int .u64 (wd N 2 : Int), .int .u64 (wd N 3 : Int)] := rfl
  rw [hW]
  clear hW
  generalize wd N 0 = a at *
  generalize wd N 1 = b at *
  generalize wd N 2 = c at *
  generalize wd N 3 = d at *
  obtain ⟨a1, a0, ha, ha0⟩ := split64 (a * n)
  obtain ⟨b1, b0, hb, hb0⟩ := split64 (b * n)
  obtain ⟨c1, c0, hc, hc0⟩ := split64 (c * n)
  obtain ⟨d1, d0, hd, hd0⟩ := split64 (d * n)
  have ta := mul_hi l0 hn ha
  have tb := mul_hi l1 hn hb
  have tc := mul_hi l2 hn hc
  have td := mul_hi l3 hn hd
  obtain ⟨k0, s0, e0, hs0⟩ := split64 (a0 + 0 + 0)
  have hk0 := carry_le ha0 (show 0 < W64 by decide) e0
  obtain ⟨k1, s1, e1, hs1⟩ := split64 (b0 + (a1 + k0) + 0)
  have hk1 := carry_le hb0 (show a1 + k0 < W64 by omega) e1
  obtain ⟨k2, s2, e2, hs2⟩ := split64 (c0 + (b1 + k1) + 0)
  have hk2 := carry_le hc0 (show b1 + k1 < W64 by omega) e2
  obtain ⟨k3, s3, e3, hs3⟩ := split64 (d0 + (c1 + k2) + 0)
  have hk3 := carry_le hd0 (show c1 + k2 < W64 by omega) e3
  have HT := Lib.hid (times_arith ha hb hc hd e0 e1 e2 e3)
  have M0 := Mul64_at a n a1 a0 l0 hn ha ha0
  have M1 := Mul64_at b n b1 b0 l1 hn hb hb0
  have M2 := Mul64_at c n c1 c0 l2 hn hc hc0
  have M3 := Mul64_at d n d1 d0 l3 hn hd hd0
  have A0 := Add64_at a0 0 0 s0 k0 (by omega) e0 hs0
  have A1 := Add64_at b0 (a1 + k0) 0 s1 k1 (by omega) e1 hs1
  have A2 := Add64_at c0 (b1 + k1) 0 s2 k2 (by omega) e2 hs2
  have A3 := Add64_at d0 (c1 + k2) 0 s3 k3 (by omega) e3 hs3
  have hres : Hid (wideV (N * n) = .agg #[.int .u64 (s0 : Int), .int .u64 (s1 : Int), .int .u64 (s2 : Int), .int .u64 (s3 : Int)]) := by
    have h := HT.out
    rw [hv] at h
    have hz : d1 + k3 = 0 := by
      have := val4_lt hs0 hs1 hs2 hs3
      unfold W256 at *; omega
    rw [hz, Nat.zero_mul, Nat.add_zero] at h
    unfold Hid
    rw [h, wideV_val4 hs0 hs1 hs2 hs3]
  have HV := Lib.hid hv
  clear hv ha hb hc hd e0 e1 e2 e3 ha0 hb0 hc0 hd0 hs0 hs1 hs2 hs3
  push_cast at A0 A1 A2 A3
  unfold W64 at *
  go_enter Try.func58, Try.ntmps58
  go_wp2_with fail
  refine wp_loop_rounds 5 ?_
  rw [rounds_succ]
  go_wp2_with fail
  refine (M0 _).mono ?_
  rintro e w1 ⟨rfl, rfl⟩
  go_wp2_with fail
  rw [rounds_succ]
  go_wp2_with fail
  refine (M1 _).mono ?_
  rintro e w1 ⟨rfl, rfl⟩
  go_wp2_with fail
  rw [rounds_succ]
  go_wp2_with fail
  refine (M2 _).mono ?_
  rintro e w1 ⟨rfl, rfl⟩
  go_wp2_with fail
  rw [rounds_succ]
  go_wp2_with fail
  refine (M3 _).mono ?_
  rintro e w1 ⟨rfl, rfl⟩
  go_wp2_with fail
  rw [rounds_succ]
  go_wp2_with fail
  rw [hres.out]
  exact bodyPost_ret (v := .agg #[.int .u64 (s0 : Int), .int .u64 (s1 : Int), .int .u64 (s2 : Int), .int .u64 (s3 : Int)]) (by simp [results, Try.results58, go_sem]) rfl ⟨rfl, ((Ext.refl _).alloc _).alloc _⟩
end Go.Proofs.Ytbkhdjbhijmghaa
