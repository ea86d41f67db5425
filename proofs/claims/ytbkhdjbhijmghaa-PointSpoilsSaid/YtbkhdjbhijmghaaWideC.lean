/- The walk of sum.wide's compare. -/
import Derived.Test.YtbkhdjbhijmghaaWideB
namespace Go.Proofs.Ytbkhdjbhijmghaa
open Go.RowKit

/-- What compare tells of two numbers. -/
def cmpN (A B : Nat) : Int := if A < B then -1 else if A > B then 1 else 0
theorem cmpN_lt {A B : Nat} (h : A < B) : cmpN A B = -1 := if_pos h
theorem cmpN_gt {A B : Nat} (h : A > B) : cmpN A B = 1 := by unfold cmpN; rw [if_neg (by omega), if_pos h]
theorem cmpN_eq (A : Nat) : cmpN A A = 0 := by unfold cmpN; rw [if_neg (by omega), if_neg (by omega)]

set_option maxHeartbeats 4000000 in
set_option maxRecDepth 100000 in
theorem compare_any (A B : Nat) (w : World) (hA : A < W256) (hB : B < W256) :
    Calls Try.prog 53 #[wideV A, wideV B] w fun e w' => e = .returned (.int .i64 (cmpN A B)) ∧ Ext w w' := by
  have hv := val4_wd A hA
  have l0 := wd_lt A 0
  have l1 := wd_lt A 1
  have l2 := wd_lt A 2
  have l3 := wd_lt A 3
  have hv' := val4_wd B hB
  have m0 := wd_lt B 0
  have m1 := wd_lt B 1
  have m2 := wd_lt B 2
  have m3 := wd_lt B 3
  have hW : wideV A = .agg #[.int .u64 (wd A 0 : Int), .int .u64 (wd A 1 : Int), .int .u64 (wd A 2 : Int), .int .u64 (wd A 3 : Int)] := rfl
  have hW' : wideV B = .agg #[.int .u64 (wd B 0 : Int), .int .u64 (wd B 1 : Int), .int .u64 (wd B 2 : Int), .int .u64 (wd B 3 : Int)] := rfl
  rw [hW, hW']
  clear hW hW'
  generalize wd A 0 = a at *
  generalize wd A 1 = b at *
  generalize wd A 2 = c at *
  generalize wd A 3 = d at *
  generalize wd B 0 = x at *
  generalize wd B 1 = y at *
  generalize wd B 2 = z at *
  generalize wd B 3 = t at *
  have hcmp : Hid (cmpN A B = cmpN (val4 a b c d) (val4 x y z t)) := Lib.hid (by rw [hv, hv'])
  clear hv hv'
  by_cases c3lt : d < t
  · have H := Lib.hid (hcmp.out.trans (cmpN_lt (by unfold val4 W64 at *; omega)))
    clear hcmp
    unfold W64 at *
    go_enter Try.func53, Try.ntmps53
    go_wp2_with fail
    refine wp_loop_rounds 5 ?_
    rw [rounds_succ]
    go_wp2_with fail
    go_quiet (fail)
    go_wp2_with fail
    go_ret
    exact ⟨retI H.out.symm, by repeat (first | apply Ext.drewN | apply Ext.alloc | exact Ext.refl _)⟩
  by_cases c3gt : t < d
  · have H := Lib.hid (hcmp.out.trans (cmpN_gt (by unfold val4 W64 at *; omega)))
    clear hcmp
    unfold W64 at *
    go_enter Try.func53, Try.ntmps53
    go_wp2_with fail
    refine wp_loop_rounds 5 ?_
    rw [rounds_succ]
    go_wp2_with fail
    go_quiet (fail)
    go_wp2_with fail
    go_quiet (fail)
    go_wp2_with fail
    go_ret
    exact ⟨retI H.out.symm, by repeat (first | apply Ext.drewN | apply Ext.alloc | exact Ext.refl _)⟩
  obtain rfl : d = t := by omega
  clear c3lt c3gt
  by_cases c2lt : c < z
  · have H := Lib.hid (hcmp.out.trans (cmpN_lt (by unfold val4 W64 at *; omega)))
    clear hcmp
    unfold W64 at *
    go_enter Try.func53, Try.ntmps53
    go_wp2_with fail
    refine wp_loop_rounds 5 ?_
    rw [rounds_succ]
    go_wp2_with fail
    go_quiet (fail)
    go_wp2_with fail
    go_quiet (fail)
    go_wp2_with fail
    rw [rounds_succ]
    go_wp2_with fail
    go_quiet (fail)
    go_wp2_with fail
    go_ret
    exact ⟨retI H.out.symm, by repeat (first | apply Ext.drewN | apply Ext.alloc | exact Ext.refl _)⟩
  by_cases c2gt : z < c
  · have H := Lib.hid (hcmp.out.trans (cmpN_gt (by unfold val4 W64 at *; omega)))
    clear hcmp
    unfold W64 at *
    go_enter Try.func53, Try.ntmps53
    go_wp2_with fail
    refine wp_loop_rounds 5 ?_
    rw [rounds_succ]
    go_wp2_with fail
    go_quiet (fail)
    go_wp2_with fail
    go_quiet (fail)
    go_wp2_with fail
    rw [rounds_succ]
    go_wp2_with fail
    go_quiet (fail)
    go_wp2_with fail
    go_quiet (fail)
    go_wp2_with fail
    go_ret
    exact ⟨retI H.out.symm, by repeat (first | apply Ext.drewN | apply Ext.alloc | exact Ext.refl _)⟩
  obtain rfl : c = z := by omega
  clear c2lt c2gt
  by_cases c1lt : b < y
  · have H := Lib.hid (hcmp.out.trans (cmpN_lt (by unfold val4 W64 at *; omega)))
    clear hcmp
    unfold W64 at *
    go_enter Try.func53, Try.ntmps53
    go_wp2_with fail
    refine wp_loop_rounds 5 ?_
    rw [rounds_succ]
    go_wp2_with fail
    go_quiet (fail)
    go_wp2_with fail
    go_quiet (fail)
    go_wp2_with fail
    rw [rounds_succ]
    go_wp2_with fail
    go_quiet (fail)
    go_wp2_with fail
    go_quiet (fail)
    go_wp2_with fail
    rw [rounds_succ]
    go_wp2_with fail
    go_quiet (fail)
    go_wp2_with fail
    go_ret
    exact ⟨retI H.out.symm, by repeat (first | apply Ext.drewN | apply Ext.alloc | exact Ext.refl _)⟩
  by_cases c1gt : y < b
  · have H := Lib.hid (hcmp.out.trans (cmpN_gt (by unfold val4 W64 at *; omega)))
    clear hcmp
    unfold W64 at *
    go_enter Try.func53, Try.ntmps53
    go_wp2_with fail
    refine wp_loop_rounds 5 ?_
    rw [rounds_succ]
    go_wp2_with fail
    go_quiet (fail)
    go_wp2_with fail
    go_quiet (fail)
    go_wp2_with fail
    rw [rounds_succ]
    go_wp2_with fail
    go_quiet (fail)
    go_wp2_with fail
    go_quiet (fail)
    go_wp2_with fail
    rw [rounds_succ]
    go_wp2_with fail
    go_quiet (fail)
    go_wp2_with fail
    go_quiet (fail)
    go_wp2_with fail
    go_ret
    exact ⟨retI H.out.symm, by repeat (first | apply Ext.drewN | apply Ext.alloc | exact Ext.refl _)⟩
  obtain rfl : b = y := by omega
  clear c1lt c1gt
  by_cases c0lt : a < x
  · have H := Lib.hid (hcmp.out.trans (cmpN_lt (by unfold val4 W64 at *; omega)))
    clear hcmp
    unfold W64 at *
    go_enter Try.func53, Try.ntmps53
    go_wp2_with fail
    refine wp_loop_rounds 5 ?_
    rw [rounds_succ]
    go_wp2_with fail
    go_quiet (fail)
    go_wp2_with fail
    go_quiet (fail)
    go_wp2_with fail
    rw [rounds_succ]
    go_wp2_with fail
    go_quiet (fail)
    go_wp2_with fail
    go_quiet (fail)
    go_wp2_with fail
    rw [rounds_succ]
    go_wp2_with fail
    go_quiet (fail)
    go_wp2_with fail
    go_quiet (fail)
    go_wp2_with fail
    rw [rounds_succ]
    go_wp2_with fail
    go_quiet (fail)
    go_wp2_with fail
    go_ret
    exact ⟨retI H.out.symm, by repeat (first | apply Ext.drewN | apply Ext.alloc | exact Ext.refl _)⟩
  by_cases c0gt : x < a
  · have H := Lib.hid (hcmp.out.trans (cmpN_gt (by unfold val4 W64 at *; omega)))
    clear hcmp
    unfold W64 at *
    go_enter Try.func53, Try.ntmps53
    go_wp2_with fail
    refine wp_loop_rounds 5 ?_
    rw [rounds_succ]
    go_wp2_with fail
    go_quiet (fail)
    go_wp2_with fail
    go_quiet (fail)
    go_wp2_with fail
    rw [rounds_succ]
    go_wp2_with fail
    go_quiet (fail)
    go_wp2_with fail
    go_quiet (fail)
    go_wp2_with fail
    rw [rounds_succ]
    go_wp2_with fail
    go_quiet (fail)
    go_wp2_with fail
    go_quiet (fail)
    go_wp2_with fail
    rw [rounds_succ]
    go_wp2_with fail
    go_quiet (fail)
    go_wp2_with fail
    go_quiet (fail)
    go_wp2_with fail
    go_ret
    exact ⟨retI H.out.symm, by repeat (first | apply Ext.drewN | apply Ext.alloc | exact Ext.refl _)⟩
  obtain rfl : a = x := by omega
  clear c0lt c0gt
  have H := Lib.hid (hcmp.out.trans (cmpN_eq _))
  clear hcmp
  unfold W64 at *
  go_enter Try.func53, Try.ntmps53
  go_wp2_with fail
  refine wp_loop_rounds 5 ?_
  rw [rounds_succ]
  go_wp2_with fail
  go_quiet (fail)
  go_wp2_with fail
  go_quiet (fail)
  go_wp2_with fail
  rw [rounds_succ]
  go_wp2_with fail
  go_quiet (fail)
  go_wp2_with fail
  go_quiet (fail)
  go_wp2_with fail
  rw [rounds_succ]
  go_wp2_with fail
  go_quiet (fail)
  go_wp2_with fail
  go_quiet (fail)
  go_wp2_with fail
  rw [rounds_succ]
  go_wp2_with fail
  go_quiet (fail)
  go_wp2_with fail
  go_quiet (fail)
  go_wp2_with fail
  rw [rounds_succ]
  go_wp2_with fail
  go_ret
  exact ⟨retI H.out.symm, by repeat (first | apply Ext.drewN | apply Ext.alloc | exact Ext.refl _)⟩
end Go.Proofs.Ytbkhdjbhijmghaa
