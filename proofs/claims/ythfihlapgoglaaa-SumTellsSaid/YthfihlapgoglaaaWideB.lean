/- The walks of sum.wide's plus, minus, compare. -/
import Derived.Test.YthfihlapgoglaaaWideA
import Derived.StillTailTactics
import Derived.Deep.AppendLies
namespace Go.Proofs.Ythfihlapgoglaaa
open Go.RowKit

set_option maxHeartbeats 2000000 in
set_option maxRecDepth 100000 in
theorem plus_any (A B : Nat) (w : World) (hA : A < W256) (hB : B < W256) (hp : A + B < W256) :
    Calls Try.prog 44 #[wideV A, wideV B] w fun e w' => e = .returned (wideV (A + B)) ∧ Ext w w' := by
  have hv := val4_wd A hA
  have l0 := wd_lt A 0
  have l1 := wd_lt A 1
  have l2 := wd_lt A 2
  have l3 := wd_lt A 3
  have hv' := val4_wd B hB
  have m0 := wd_lt B 0
  have m1 := wd_lt B 1
  have m2 := wd_lt B 2
  have m3 := wd_lt B 3
  have hW : wideV A = .agg #[.int .u64 (wd A 0 : Int), .int .u64 (wd A 1 : Int), .int .u64 (wd A 2 : Int), .int .u64 (wd A 3 : Int)] := rfl
  have hW' : wideV B = .agg #[.int .u64 (wd B 0 : Int), .int .u64 (wd B 1 : Int), .int .u64 (wd B 2 : Int), .int .u64 (wd B 3 : Int)] := rfl
  rw [hW, hW']
  clear hW hW'
  generalize wd A 0 = a at *
  generalize wd A 1 = b at *
  generalize wd A 2 = c at *
  generalize wd A 3 = d at *
  generalize wd B 0 = x at *
  generalize wd B 1 = y at *
  generalize wd B 2 = z at *
  generalize wd B 3 = t at *
  obtain ⟨k0, s0, e0, hs0⟩ := split64 (a + x + 0)
  have hk0 : k0 ≤ 1 := by unfold W64 at *; omega
  obtain ⟨k1, s1, e1, hs1⟩ := split64 (b + y + k0)
  have hk1 : k1 ≤ 1 := by unfold W64 at *; omega
  obtain ⟨k2, s2, e2, hs2⟩ := split64 (c + z + k1)
  have hk2 : k2 ≤ 1 := by unfold W64 at *; omega
  obtain ⟨k3, s3, e3, hs3⟩ := split64 (d + t + k2)
  have hk3 : k3 ≤ 1 := by unfold W64 at *; omega
  have HT := Lib.hid (plus_arith e0 e1 e2 e3)
  have A0 := Add64_at a x 0 s0 k0 (by omega) e0 hs0
  have A1 := Add64_at b y k0 s1 k1 (by omega) e1 hs1
  have A2 := Add64_at c z k1 s2 k2 (by omega) e2 hs2
  have A3 := Add64_at d t k2 s3 k3 (by omega) e3 hs3
  have hres : Hid (wideV (A + B) = .agg #[.int .u64 (s0 : Int), .int .u64 (s1 : Int), .int .u64 (s2 : Int), .int .u64 (s3 : Int)]) := by
    have h := HT.out
    rw [hv, hv'] at h
    have hz : k3 = 0 := by
      have := val4_lt hs0 hs1 hs2 hs3
      unfold W256 at *; omega
    rw [hz, Nat.zero_mul, Nat.add_zero] at h
    unfold Hid
    rw [h, wideV_val4 hs0 hs1 hs2 hs3]
  clear hv hv' e0 e1 e2 e3 hs0 hs1 hs2 hs3
  push_cast at A0 A1 A2 A3
  unfold W64 at *
  go_enter Try.func44, Try.ntmps44
  go_wp2_with fail
  refine wp_loop_rounds 5 ?_
  rw [rounds_succ]
  go_wp2_with fail
  go_region
  go_wp2_with fail
  rw [rounds_succ]
  go_wp2_with fail
  go_region
  go_wp2_with fail
  rw [rounds_succ]
  go_wp2_with fail
  go_region
  go_wp2_with fail
  rw [rounds_succ]
  go_wp2_with fail
  go_region
  go_wp2_with fail
  rw [rounds_succ]
  go_wp2_with fail
  rw [hres.out]
  exact bodyPost_ret (v := .agg #[.int .u64 (s0 : Int), .int .u64 (s1 : Int), .int .u64 (s2 : Int), .int .u64 (s3 : Int)]) (by simp [results, Try.results44, go_sem]) rfl ⟨rfl, (((((((Ext.refl _).alloc _).alloc _).alloc _).drew).drew).drew).drew⟩

theorem sub_split {a x k' : Nat} (ha : a < W64) (hx : x < W64) (hk : k' ≤ 1) : ∃ k s : Nat, a + k * W64 = s + x + k' ∧ s < W64 ∧ k ≤ 1 := by
  by_cases h : x + k' ≤ a
  · exact ⟨0, a - x - k', by omega, by omega, by omega⟩
  · exact ⟨1, a + W64 - x - k', by unfold W64 at *; omega, by unfold W64 at *; omega, by omega⟩

set_option maxHeartbeats 2000000 in
set_option maxRecDepth 100000 in
theorem minus_any (A B : Nat) (w : World) (hA : A < W256) (hB : B < W256) (hp : B ≤ A) :
    Calls Try.prog 46 #[wideV A, wideV B] w fun e w' => e = .returned (wideV (A - B)) ∧ Ext w w' := by
  have hv := val4_wd A hA
  have l0 := wd_lt A 0
  have l1 := wd_lt A 1
  have l2 := wd_lt A 2
  have l3 := wd_lt A 3
  have hv' := val4_wd B hB
  have m0 := wd_lt B 0
  have m1 := wd_lt B 1
  have m2 := wd_lt B 2
  have m3 := wd_lt B 3
  have hW : wideV A = .agg #[.int .u64 (wd A 0 : Int), .int .u64 (wd A 1 : Int), .int .u64 (wd A 2 : Int), .int .u64 (wd A 3 : Int)] := rfl
  have hW' : wideV B = .agg #[.int .u64 (wd B 0 : Int), .int .u64 (wd B 1 : Int), .int .u64 (wd B 2 : Int), .int .u64 (wd B 3 : Int)] := rfl
  rw [hW, hW']
  clear hW hW'
  generalize wd A 0 = a at *
  generalize wd A 1 = b at *
  generalize wd A 2 = c at *
  generalize wd A 3 = d at *
  generalize wd B 0 = x at *
  generalize wd B 1 = y at *
  generalize wd B 2 = z at *
  generalize wd B 3 = t at *
  obtain ⟨k0, s0, e0, hs0, hk0⟩ : ∃ k s : Nat, a + k * W64 = s + x + 0 ∧ s < W64 ∧ k ≤ 1 := sub_split l0 m0 (by omega)
  obtain ⟨k1, s1, e1, hs1, hk1⟩ : ∃ k s : Nat, b + k * W64 = s + y + k0 ∧ s < W64 ∧ k ≤ 1 := sub_split l1 m1 hk0
  obtain ⟨k2, s2, e2, hs2, hk2⟩ : ∃ k s : Nat, c + k * W64 = s + z + k1 ∧ s < W64 ∧ k ≤ 1 := sub_split l2 m2 hk1
  obtain ⟨k3, s3, e3, hs3, hk3⟩ : ∃ k s : Nat, d + k * W64 = s + t + k2 ∧ s < W64 ∧ k ≤ 1 := sub_split l3 m3 hk2
  have HT := Lib.hid (minus_arith e0 e1 e2 e3)
  have A0 := Sub64_at a x 0 s0 k0 (by omega) l0 m0 e0 hs0
  have A1 := Sub64_at b y k0 s1 k1 (by omega) l1 m1 e1 hs1
  have A2 := Sub64_at c z k1 s2 k2 (by omega) l2 m2 e2 hs2
  have A3 := Sub64_at d t k2 s3 k3 (by omega) l3 m3 e3 hs3
  have hres : Hid (wideV (A - B) = .agg #[.int .u64 (s0 : Int), .int .u64 (s1 : Int), .int .u64 (s2 : Int), .int .u64 (s3 : Int)]) := by
    have h := HT.out
    rw [hv, hv'] at h
    have hz : k3 = 0 := by
      have := val4_lt hs0 hs1 hs2 hs3
      unfold W256 at *; omega
    rw [hz, Nat.zero_mul, Nat.add_zero] at h
    unfold Hid
    rw [show A - B = val4 s0 s1 s2 s3 from by omega, wideV_val4 hs0 hs1 hs2 hs3]
  clear hv hv' e0 e1 e2 e3 hs0 hs1 hs2 hs3
  push_cast at A0 A1 A2 A3
  unfold W64 at *
  go_enter Try.func46, Try.ntmps46
  go_wp2_with fail
  refine wp_loop_rounds 5 ?_
  rw [rounds_succ]
  go_wp2_with fail
  go_region
  go_wp2_with fail
  rw [rounds_succ]
  go_wp2_with fail
  go_region
  go_wp2_with fail
  rw [rounds_succ]
  go_wp2_with fail
  go_region
  go_wp2_with fail
  rw [rounds_succ]
  go_wp2_with fail
  go_region
  go_wp2_with fail
  rw [rounds_succ]
  go_wp2_with fail
  rw [hres.out]
  exact bodyPost_ret (v := .agg #[.int .u64 (s0 : Int), .int .u64 (s1 : Int), .int .u64 (s2 : Int), .int .u64 (s3 : Int)]) (by simp [results, Try.results46, go_sem]) rfl ⟨rfl, (((((((Ext.refl _).alloc _).alloc _).alloc _).drew).drew).drew).drew⟩
end Go.Proofs.Ythfihlapgoglaaa
