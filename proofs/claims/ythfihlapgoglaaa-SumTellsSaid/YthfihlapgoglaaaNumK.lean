/- The walk of sum.Over. -/
import Derived.Test.YthfihlapgoglaaaNumJ
namespace Go.Proofs.Ythfihlapgoglaaa
open Go.RowKit

/-- Two decimals in memory and the room of the answer; what was there stands. -/
def Tri (w : World) (m1 s1 m2 s2 : Int) (W : World) : Prop := Ext w W ∧ DecIn w.heap.size m1 s1 W ∧ DecIn (w.heap.size + 1) m2 s2 W ∧ DecIn (w.heap.size + 2) 0 0 W
theorem Tri.setWide {w : World} {m1 s1 m2 s2 : Int} {W : World} (h : Tri w m1 s1 m2 s2 W) {b : Nat} (hb : w.heap.size + 2 < b) (N : Nat) : Tri w m1 s1 m2 s2 (setWide W b N) :=
  ⟨ext_setWide h.1 (by omega) N, (heap_setWide _ _ _ _ (by omega)).trans h.2.1, (heap_setWide _ _ _ _ (by omega)).trans h.2.2.1, (heap_setWide _ _ _ _ (by omega)).trans h.2.2.2⟩
theorem Tri.ext {w : World} {m1 s1 m2 s2 : Int} {W W' : World} (h : Tri w m1 s1 m2 s2 W) (x : Ext W W') : Tri w m1 s1 m2 s2 W' := ⟨h.1.trans x, h.2.1.ext x, h.2.2.1.ext x, h.2.2.2.ext x⟩

/-- The number behind the quotient, and its digits behind the point, as Over reckons them. -/
def ovP (T k2 k5 : Nat) : Nat := T * 2 ^ (max k2 k5 - k2) * 5 ^ (max k2 k5 - k5)
def ovS (k2 k5 : Nat) (s1 s2 : Int) : Int := (max k2 k5 : Nat) + (s1 - s2)
def ovN (T k2 k5 : Nat) (s1 s2 : Int) : Nat := if ovS k2 k5 s1 s2 < 0 then ovP T k2 k5 * 10 ^ (-ovS k2 k5 s1 s2).toNat else ovP T k2 k5
def ovE (m1 m2 s1 s2 : Int) (m k2 k5 : Nat) : Ending :=
  if m = 1 then .returned (.tuple #[decV (decMv (decide (m1 < 0) != decide (m2 < 0)) (ovN (m1.natAbs / Nat.gcd m1.natAbs m2.natAbs) k2 k5 s1 s2) (ovS k2 k5 s1 s2).toNat) (decSv (ovN (m1.natAbs / Nat.gcd m1.natAbs m2.natAbs) k2 k5 s1 s2) (ovS k2 k5 s1 s2).toNat), .bool (decOk (ovN (m1.natAbs / Nat.gcd m1.natAbs m2.natAbs) k2 k5 s1 s2) (ovS k2 k5 s1 s2).toNat)])
  else .returned (.tuple #[decV 0 0, .bool false])

theorem mul_pow_lt {T B k C : Nat} (b : Nat) (hb : 0 < b) (hT : T < B) (hk : k ≤ C) : T * b ^ k < B * b ^ C :=
  Nat.lt_of_le_of_lt (Nat.mul_le_mul_left T (Nat.pow_le_pow_right hb hk)) (Nat.mul_lt_mul_of_pos_right hT (Nat.pow_pos hb))
theorem ovP_lt {T k2 k5 : Nat} (hT : T < 9223372036854775808) (h2 : k2 < 64) (h5 : k5 < 64) : T * 2 ^ (max k2 k5 - k2) < 9223372036854775808 * 9223372036854775808 ∧ ovP T k2 k5 < 1000000000000000000000000000000000000000000000000000000000000000000 := by
  have hA := mul_pow_lt (T := T) 2 (by decide) hT (show max k2 k5 - k2 ≤ 63 by omega)
  have e1 : (9223372036854775808 : Nat) * 2 ^ 63 = 9223372036854775808 * 9223372036854775808 := by decide
  have e2 : (9223372036854775808 : Nat) * 5 ^ 63 < 1000000000000000000000000000000000000000000000000000000000000000000 := by decide
  refine ⟨by omega, ?_⟩
  unfold ovP
  by_cases h : k2 ≤ k5
  · rw [show max k2 k5 - k5 = 0 from by omega, Nat.pow_zero, Nat.mul_one]
    omega
  · rw [show max k2 k5 - k2 = 0 from by omega, Nat.pow_zero, Nat.mul_one]
    have hB := mul_pow_lt (T := T) 5 (by decide) hT (show max k2 k5 - k5 ≤ 63 by omega)
    omega
theorem ovP_lt2 {T k2 k5 d : Nat} (hT : T < 9223372036854775808) (h2 : max k2 k5 ≤ 18) (hd : d ≤ 18) : ovP T k2 k5 * 10 ^ d < W256 := by
  have hA := mul_pow_lt (T := T) 2 (by decide) hT (show max k2 k5 - k2 ≤ 18 by omega)
  have hB := mul_pow_lt 5 (by decide) hA (show max k2 k5 - k5 ≤ 18 by omega)
  have hC := mul_pow_lt 10 (by decide) hB hd
  have e1 : (9223372036854775808 : Nat) * 2 ^ 18 * 5 ^ 18 * 10 ^ 18 < W256 := by decide
  unfold ovP
  omega

set_option maxHeartbeats 20000000 in
set_option maxRecDepth 100000 in
theorem Over_any (m1 s1 m2 s2 : Int) (w : World) (hM1 : I64 m1) (hS1 : I64 s1) (hM2 : I64 m2) (hS2 : I64 s2) (g1 : goodB m1 s1 = true) (g2 : goodB m2 s2 = true) (hz : m2 ≠ 0) :
    Calls Try.prog 13 #[decV m1 s1, decV m2 s2] w fun e w' => (∃ m k2 k5 : Nat, m2.natAbs / Nat.gcd m1.natAbs m2.natAbs = m * 5 ^ k5 * 2 ^ k2 ∧ m % 5 ≠ 0 ∧ m % 2 ≠ 0 ∧ e = ovE m1 m2 s1 s2 m k2 k5) ∧ Ext w w' := by
  have G1 := fun w => Good_any m1 s1 w hM1 hS1
  have G2 := fun w => Good_any m2 s2 w hM2 hS2
  obtain ⟨a1, a2, a3⟩ := good_range g1
  obtain ⟨b1, b2, b3⟩ := good_range g2
  rw [g1] at G1
  rw [g2] at G2
  unfold decV at G1 G2 ⊢
  have HT : Tri w m1 s1 m2 s2 (((w.alloc (.cells #[.int .i64 m1, .int .i64 s1] 25)).alloc (.cells #[.int .i64 m2, .int .i64 s2] 25)).alloc (.cells #[.int .i64 0, .int .i64 0] 25)) := ⟨(((Ext.refl _).alloc _).alloc _).alloc _, heap_at3a _ _ _ _, heap_at3b _ _ _ _, heap_at3c _ _ _ _⟩
  have hA1 : m1.natAbs < 9223372036854775808 := by unfold I64 at *; omega
  have hA2 : m2.natAbs < 9223372036854775808 := by unfold I64 at *; omega
  have hA0 : 0 < m2.natAbs := by omega
  have C1 := fun w => abs_ext m1 w hM1
  have C2 := fun w => abs_ext m2 w hM2
  have C3 := fun w => shared_any m1.natAbs m2.natAbs w (by unfold W64; omega) (by unfold W64; omega)
  have hg0 : 0 < Nat.gcd m1.natAbs m2.natAbs := Nat.gcd_pos_of_pos_right _ hA0
  have hT : m1.natAbs / Nat.gcd m1.natAbs m2.natAbs < 9223372036854775808 := Nat.lt_of_le_of_lt (Nat.div_le_self _ _) hA1
  have hL : m2.natAbs / Nat.gcd m1.natAbs m2.natAbs < 9223372036854775808 := Nat.lt_of_le_of_lt (Nat.div_le_self _ _) hA2
  have hL0 : 0 < m2.natAbs / Nat.gcd m1.natAbs m2.natAbs := Nat.div_pos (Nat.le_of_dvd hA0 (Nat.gcd_dvd_right _ _)) hg0
  have C4 := fun w => without2 (m2.natAbs / Nat.gcd m1.natAbs m2.natAbs) w hL0 (by unfold W64; omega)
  unfold ovE
  have hq1 : ((m1.natAbs : Int) / (Nat.gcd m1.natAbs m2.natAbs : Int)) = ((m1.natAbs / Nat.gcd m1.natAbs m2.natAbs : Nat) : Int) := rfl
  have hq2 : ((m2.natAbs : Int) / (Nat.gcd m1.natAbs m2.natAbs : Int)) = ((m2.natAbs / Nat.gcd m1.natAbs m2.natAbs : Nat) : Int) := rfl
  generalize m1.natAbs / Nat.gcd m1.natAbs m2.natAbs = T at *
  generalize m2.natAbs / Nat.gcd m1.natAbs m2.natAbs = L at *
  generalize Nat.gcd m1.natAbs m2.natAbs = g at *
  generalize m1.natAbs = A1 at *
  generalize m2.natAbs = A2 at *
  have e2 : binOp .eql 2 (.int .i64 m2) (.int .i64 0) = pure (.bool false) := by
    simp only [go_sem]; rw [show (m2 == 0) = false from by simpa using hz]
  clear hM1 hS1 hM2 hS2 g1 g2
  go_enter Try.func13, Try.ntmps13
  go_wp2_with fail
  generalize ((w.alloc (.cells #[.int .i64 m1, .int .i64 s1] 25)).alloc (.cells #[.int .i64 m2, .int .i64 s2] 25)).alloc (.cells #[.int .i64 0, .int .i64 0] 25) = W at *
  refine (G1 _).mono ?_
  rintro e wa ⟨rfl, xa⟩
  replace HT := HT.ext xa
  obtain ⟨c0, c1⟩ := HT.2.2.1.cells
  go_wp2_with fail
  refine (G2 _).mono ?_
  rintro e wb ⟨rfl, xb⟩
  replace HT := HT.ext xb
  clear c0 c1
  obtain ⟨c0, c1⟩ := HT.2.1.cells
  obtain ⟨d0, d1⟩ := HT.2.2.1.cells
  go_wp2_with fail
  have F1 := fun w0 (h : TwoIn w w.heap.size (w.heap.size + 1) m1 s1 m2 s2 w0) => two_keepx h (C1 w0)
  have F2 := fun w0 (h : TwoIn w w.heap.size (w.heap.size + 1) m1 s1 m2 s2 w0) => two_keepx h (C2 w0)
  have hP : TwoIn w w.heap.size (w.heap.size + 1) m1 s1 m2 s2 wb.drew := ⟨HT.1.drew, HT.2.1.ext (Ext.refl wb).drew, HT.2.2.1.ext (Ext.refl wb).drew⟩
  replace HT := HT.ext (Ext.refl wb).drew
  clear C1 C2 G1 G2
  go_cut [6, 7] (fun t6 t7 wx => t6 = .int .u64 (A1 : Int) ∧ t7 = .int .u64 (A2 : Int) ∧ Tri w m1 s1 m2 s2 wx)
  case first =>
    go_region_held3 (fun w' => w'.cell? ⟨w.heap.size, 0, none⟩ = some (.int .i64 m1) ∧ w'.cell? ⟨w.heap.size + 1, 0, none⟩ = some (.int .i64 m2)) (first | exact ⟨p0, q0⟩ | exact ⟨c0, d0⟩ | go_keep) (first
      | (go_at_call 29; (with_reducible refine (F1 _ ?h).mono ?_); (case h => first | exact H | exact hP); rintro e wy ⟨rfl, x, H, p0, p1, q0, q1, -⟩; (have HT := HT.ext x))
      | (go_at_call 29; (with_reducible refine (F2 _ ?h).mono ?_); (case h => first | exact H | exact hP); rintro e wy ⟨rfl, x, H, p0, p1, q0, q1, -⟩; (have HT := HT.ext x)))
    all_goals
      go_wp2_with fail
      go_meet
      case rel => exact ⟨rfl, rfl, HT⟩
  case rest =>
  obtain ⟨rfl, rfl, HT⟩ := hcut
  clear hP F1 F2 c0 c1 d0 d1
  go_wp2_with fail
  refine (C3 _).mono ?_
  rintro e v4 ⟨rfl, xd⟩
  replace HT := HT.ext xd
  go_wp2_with fail
  refine (C4 _).mono ?_
  rintro e we ⟨⟨mm, k2, rfl, eL, h2, hm0, hmL, hk2⟩, xe⟩
  replace HT := HT.ext xe
  have C5 := fun w => without5 mm w hm0 (by unfold W64; omega)
  clear C4 hq1 hq2 C3
  go_wp2_with fail
  refine (C5 _).mono ?_
  rintro e wf ⟨⟨m, k5, rfl, eM, h5, hn0, hnL, hk5⟩, xf⟩
  replace HT := HT.ext xf
  have HL := Lib.hid (show L = m * 5 ^ k5 * 2 ^ k2 from by rw [← eM]; exact eL)
  have H2 : Hid (m % 2 ≠ 0) := Lib.hid (fun h => h2 (by rw [eM, Nat.mul_mod, h]; simp))
  have H5 := Lib.hid h5
  clear eL eM C5 hg0 hL hL0 hA1 hA2 hA0 hmL hm0 h2 h5 hnL
  by_cases hm : m = 1
  · subst hm
    clear hn0
    obtain ⟨K, hKd⟩ : ∃ K, K = max k2 k5 := ⟨_, rfl⟩
    have hK : max (k2 : Int) (k5 : Int) = (K : Int) := by omega
    obtain ⟨d2, hd2⟩ : ∃ d2, d2 = K - k2 := ⟨_, rfl⟩
    obtain ⟨d5, hd5⟩ : ∃ d5, d5 = K - k5 := ⟨_, rfl⟩
    have hi2 : (K : Int) - (k2 : Int) = (d2 : Int) := by omega
    have hi5 : (K : Int) - (k5 : Int) = (d5 : Int) := by omega
    have hb := ovP_lt hT hk2 hk5
    have hPd : ovP T k2 k5 = T * 2 ^ d2 * 5 ^ d5 := by unfold ovP; rw [hd2, hd5, hKd]
    rw [← hKd, ← hd2] at hb
    have C6 : ∀ w, Calls Try.prog 28 #[.int .u64 (T : Int)] w fun e w' => e = .returned (.agg #[.int .u64 (wd (T) 0 : Int), .int .u64 (wd (T) 1 : Int), .int .u64 (wd (T) 2 : Int), .int .u64 (wd (T) 3 : Int)]) ∧ Ext w w' := fun w => of_any T w (by unfold W64; omega)
    have C7 : ∀ w, Calls Try.prog 37 #[.agg #[.int .u64 (wd (T) 0 : Int), .int .u64 (wd (T) 1 : Int), .int .u64 (wd (T) 2 : Int), .int .u64 (wd (T) 3 : Int)], .int .u64 2, .int .i64 (d2 : Int)] w fun e w' => e = .returned (.agg #[.int .u64 (wd (T * 2 ^ d2) 0 : Int), .int .u64 (wd (T * 2 ^ d2) 1 : Int), .int .u64 (wd (T * 2 ^ d2) 2 : Int), .int .u64 (wd (T * 2 ^ d2) 3 : Int)]) ∧ Ext w w' := fun w => power_any T 2 d2 w (by decide) (by decide) (by omega) (by unfold W256; omega)
    have C8 : ∀ w, Calls Try.prog 37 #[.agg #[.int .u64 (wd (T * 2 ^ d2) 0 : Int), .int .u64 (wd (T * 2 ^ d2) 1 : Int), .int .u64 (wd (T * 2 ^ d2) 2 : Int), .int .u64 (wd (T * 2 ^ d2) 3 : Int)], .int .u64 5, .int .i64 (d5 : Int)] w fun e w' => e = .returned (.agg #[.int .u64 (wd (ovP T k2 k5) 0 : Int), .int .u64 (wd (ovP T k2 k5) 1 : Int), .int .u64 (wd (ovP T k2 k5) 2 : Int), .int .u64 (wd (ovP T k2 k5) 3 : Int)]) ∧ Ext w w' := fun w => by
      rw [hPd]
      exact power_any (T * 2 ^ d2) 5 d5 w (by decide) (by decide) (by omega) (by rw [← hPd]; unfold W256; omega)
    have HE : Hid (ovS k2 k5 s1 s2 = (K : Int) + (s1 - s2)) := Lib.hid (by unfold ovS; rw [hKd])
    have hK64 : K < 64 := by omega
    have hd264 : d2 < 64 := by omega
    have hd564 : d5 < 64 := by omega
    have hPb := hb.2
    have HKd := Lib.hid hKd
    clear hb hPd hKd hd2 hd5
    obtain ⟨P2, hP2⟩ : ∃ P2, P2 = T * 2 ^ d2 := ⟨_, rfl⟩
    obtain ⟨P, hP⟩ : ∃ P, P = ovP T k2 k5 := ⟨_, rfl⟩
    rw [← hP2] at C7 C8
    rw [← hP] at C8 hPb
    have HPd := Lib.hid hP
    clear hP2 hP
    go_wp2_with fail
    refine (C6 _).mono ?_
    rintro e wg ⟨rfl, xg⟩
    replace HT := HT.ext xg
    go_wp2_with fail
    refine (C7 _).mono ?_
    rintro e wh ⟨rfl, xh⟩
    replace HT := HT.ext xh
    go_wp2_with fail
    refine (C8 _).mono ?_
    rintro e wi ⟨rfl, xi⟩
    replace HT := HT.ext xi
    have hlt : w.heap.size + 2 < wi.heap.size := (Array.getElem?_eq_some_iff.1 HT.2.2.2).1
    have hl0 : w.heap.size < wi.heap.size := by omega
    have hl1 : w.heap.size + 1 < wi.heap.size := by omega
    have hl2 : w.heap.size + 1 + 1 < wi.heap.size := by omega
    obtain ⟨c0, c1⟩ := HT.2.1.cells
    obtain ⟨d0, d1⟩ := HT.2.2.1.cells
    obtain ⟨q0, q1⟩ := HT.2.2.2.cells
    obtain ⟨f0, f1⟩ := HT.2.2.2.free
    clear C6 C7 C8 hK
    by_cases ht : (K : Int) + (s1 - s2) < 0
    · have hN : P * 10 ^ (-((K : Int) + (s1 - s2))).toNat < W256 := by
        rw [HPd.out]
        exact ovP_lt2 hT (by rw [← HKd.out]; omega) (by omega)
      go_wp2_with fail
      have C10 : ∀ w, Calls Try.prog 37 #[.agg #[.int .u64 (wd (P) 0 : Int), .int .u64 (wd (P) 1 : Int), .int .u64 (wd (P) 2 : Int), .int .u64 (wd (P) 3 : Int)], .int .u64 10, .int .i64 (-((K : Int) + (s1 - s2)))] w fun e w' => e = .returned (.agg #[.int .u64 (wd (P * 10 ^ (-((K : Int) + (s1 - s2))).toNat) 0 : Int), .int .u64 (wd (P * 10 ^ (-((K : Int) + (s1 - s2))).toNat) 1 : Int), .int .u64 (wd (P * 10 ^ (-((K : Int) + (s1 - s2))).toNat) 2 : Int), .int .u64 (wd (P * 10 ^ (-((K : Int) + (s1 - s2))).toNat) 3 : Int)]) ∧ Ext w w' := fun w => by
        have := power_any P 10 (-((K : Int) + (s1 - s2))).toNat w (by decide) (by decide) (by omega) hN
        rw [show (((-((K : Int) + (s1 - s2))).toNat : Nat) : Int) = -((K : Int) + (s1 - s2)) from by omega] at this
        exact this
      obtain ⟨N, hNd⟩ : ∃ N, N = P * 10 ^ (-((K : Int) + (s1 - s2))).toNat := ⟨_, rfl⟩
      rw [← hNd] at hN C10
      have HN := Lib.hid hNd
      clear hNd
      refine (C10 _).mono ?_
      rintro e w9 ⟨rfl, x9⟩
      have k9 : WideIn wi.heap.size P w9 := WideIn.ext (heap_last _ _) x9
      have x9' := ((Ext.refl wi).alloc (.cells #[.int .u64 (wd (P) 0 : Int), .int .u64 (wd (P) 1 : Int), .int .u64 (wd (P) 2 : Int), .int .u64 (wd (P) 3 : Int)] 44)).trans x9
      replace HT := HT.ext x9'
      clear c0 c1 d0 d1 q0 q1 f0 f1 C10
      obtain ⟨c0, c1⟩ := HT.2.1.cells
      obtain ⟨d0, d1⟩ := HT.2.2.1.cells
      obtain ⟨u0, u1, u2, u3⟩ := k9.cells
      obtain ⟨v0, v1, v2, v3⟩ := k9.free
      go_wp2_with fail
      have HT2 : Tri w m1 s1 m2 s2 (setWide w9 wi.heap.size N) := HT.setWide hlt N
      have C9 : ∀ w, Calls Try.prog 26 #[.agg #[.bool (!(decide (m1 < 0) == decide (m2 < 0))), .int .u64 (wd N 0 : Int), .int .u64 (wd N 1 : Int), .int .u64 (wd N 2 : Int), .int .u64 (wd N 3 : Int), .int .i64 0]] w fun e w' => e = .returned (.tuple #[.agg #[.int .i64 (decMv (!(decide (m1 < 0) == decide (m2 < 0))) N 0), .int .i64 (decSv N 0)], .bool (decOk N 0)]) ∧ Ext w w' := fun w => dec_any (!(decide (m1 < 0) == decide (m2 < 0))) N 0 w hN (by omega)
      refine (C9 _).mono ?_
      rintro e wz ⟨rfl, xz⟩
      replace HT := HT2.ext xz
      clear c0 c1 d0 d1 u0 u1 u2 u3 v0 v1 v2 v3 HT2 C9
      obtain ⟨q0, q1⟩ := HT.2.2.2.cells
      obtain ⟨f0, f1⟩ := HT.2.2.2.free
      go_wp2_with fail
      refine bodyPost_ret (v := .tuple #[decV (decMv (!(decide (m1 < 0) == decide (m2 < 0))) N 0) (decSv N 0), .bool (decOk N 0)]) ?_ rfl ⟨⟨1, k2, k5, HL.out, H5.out, H2.out, ?_⟩, ext_setDec HT.1 (by omega) _ _⟩
      · obtain ⟨t0, t1⟩ := (HT.2.2.2.stored (decMv (!(decide (m1 < 0) == decide (m2 < 0))) N 0) (decSv N 0)).cells
        change (results Try.f13 _).run Try.prog (setDec wz (w.heap.size + 2) (decMv (!(decide (m1 < 0) == decide (m2 < 0))) N 0) (decSv N 0)) = .ok _ (setDec wz (w.heap.size + 2) (decMv (!(decide (m1 < 0) == decide (m2 < 0))) N 0) (decSv N 0))
        generalize setDec wz (w.heap.size + 2) (decMv (!(decide (m1 < 0) == decide (m2 < 0))) N 0) (decSv N 0) = W' at *
        simp [results, Try.results13, go_sem, t0, t1, decV]
      · rw [if_pos rfl]; unfold ovN; rw [HE.out, if_pos ht, ← HPd.out, ← HN.out, show ((K : Int) + (s1 - s2)).toNat = 0 from by omega]; rfl
    · go_wp2_with fail
      have C9 : ∀ w, Calls Try.prog 26 #[.agg #[.bool (!(decide (m1 < 0) == decide (m2 < 0))), .int .u64 (wd P 0 : Int), .int .u64 (wd P 1 : Int), .int .u64 (wd P 2 : Int), .int .u64 (wd P 3 : Int), .int .i64 ((K : Int) + (s1 - s2))]] w fun e w' => e = .returned (.tuple #[.agg #[.int .i64 (decMv (!(decide (m1 < 0) == decide (m2 < 0))) P ((K : Int) + (s1 - s2)).toNat), .int .i64 (decSv P ((K : Int) + (s1 - s2)).toNat)], .bool (decOk P ((K : Int) + (s1 - s2)).toNat)]) ∧ Ext w w' := fun w => by
        have := dec_any (!(decide (m1 < 0) == decide (m2 < 0))) P ((K : Int) + (s1 - s2)).toNat w (by unfold W256; omega) (by omega)
        rw [show ((((K : Int) + (s1 - s2)).toNat : Nat) : Int) = (K : Int) + (s1 - s2) from by omega] at this
        exact this
      refine (C9 _).mono ?_
      rintro e w9 ⟨rfl, x9⟩
      have x9' := ((Ext.refl wi).alloc (.cells #[.int .u64 (wd (P) 0 : Int), .int .u64 (wd (P) 1 : Int), .int .u64 (wd (P) 2 : Int), .int .u64 (wd (P) 3 : Int)] 44)).trans x9
      replace HT := HT.ext x9'
      clear c0 c1 d0 d1 q0 q1 f0 f1
      obtain ⟨q0, q1⟩ := HT.2.2.2.cells
      obtain ⟨f0, f1⟩ := HT.2.2.2.free
      go_wp2_with fail
      refine bodyPost_ret (v := .tuple #[decV (decMv (!(decide (m1 < 0) == decide (m2 < 0))) P ((K : Int) + (s1 - s2)).toNat) (decSv P ((K : Int) + (s1 - s2)).toNat), .bool (decOk P ((K : Int) + (s1 - s2)).toNat)]) ?_ rfl ⟨⟨1, k2, k5, HL.out, H5.out, H2.out, ?_⟩, ext_setDec HT.1 (by omega) _ _⟩
      · obtain ⟨t0, t1⟩ := (HT.2.2.2.stored (decMv (!(decide (m1 < 0) == decide (m2 < 0))) P ((K : Int) + (s1 - s2)).toNat) (decSv P ((K : Int) + (s1 - s2)).toNat)).cells
        change (results Try.f13 _).run Try.prog (setDec w9 (w.heap.size + 2) (decMv (!(decide (m1 < 0) == decide (m2 < 0))) P ((K : Int) + (s1 - s2)).toNat) (decSv P ((K : Int) + (s1 - s2)).toNat)) = .ok _ (setDec w9 (w.heap.size + 2) (decMv (!(decide (m1 < 0) == decide (m2 < 0))) P ((K : Int) + (s1 - s2)).toNat) (decSv P ((K : Int) + (s1 - s2)).toNat))
        generalize setDec w9 (w.heap.size + 2) (decMv (!(decide (m1 < 0) == decide (m2 < 0))) P ((K : Int) + (s1 - s2)).toNat) (decSv P ((K : Int) + (s1 - s2)).toNat) = W' at *
        simp [results, Try.results13, go_sem, t0, t1, decV]
      · rw [if_pos rfl]; unfold ovN; rw [HE.out, if_neg (by omega), ← HPd.out]; rfl
  · have n1 : binOp .neq 42 (.int .u64 (m : Int)) (.int .u64 1) = pure (.bool true) := by
      simp only [go_sem]; rw [show ((m : Int) != 1) = true from by simp; omega]
    obtain ⟨q0, q1⟩ := HT.2.2.2.cells
    obtain ⟨f0, f1⟩ := HT.2.2.2.free
    go_wp2_with fail
    refine bodyPost_ret (v := .tuple #[decV 0 0, .bool false]) ?_ rfl ⟨⟨m, k2, k5, HL.out, H5.out, H2.out, (if_neg hm).symm⟩, ext_setDec HT.1 (by omega) _ _⟩
    obtain ⟨t0, t1⟩ := (HT.2.2.2.stored 0 0).cells
    change (results Try.f13 _).run Try.prog (setDec wf (w.heap.size + 2) 0 0) = .ok _ (setDec wf (w.heap.size + 2) 0 0)
    generalize setDec wf (w.heap.size + 2) 0 0 = W' at *
    simp [results, Try.results13, go_sem, t0, t1, decV]
end Go.Proofs.Ythfihlapgoglaaa
