/- The walk of sum.Times. -/
import Derived.Test.YthfihlapgoglaaaNumH
namespace Go.Proofs.Ythfihlapgoglaaa
open Go.RowKit

theorem abs_ext (m : Int) (w : World) (h : I64 m) :
    Calls Try.prog 29 #[.int .i64 m] w fun e w' => e = .returned (.int .u64 (m.natAbs : Int)) ∧ Ext w w' :=
  (abs_any m w h).mono (fun _ _ ⟨he, hw⟩ => ⟨he, hw ▸ Ext.refl _⟩)

/-- The product of two decimals, as Times reckons it. -/
def mulOk (m1 s1 m2 s2 : Int) : Bool := goodB m1 s1 && (goodB m2 s2 && decOk (m1.natAbs * m2.natAbs) (s1 + s2).toNat)
def mulM (m1 s1 m2 s2 : Int) : Int := if goodB m1 s1 && goodB m2 s2 then decMv (decide (m1 < 0) != decide (m2 < 0)) (m1.natAbs * m2.natAbs) (s1 + s2).toNat else 0
def mulS (m1 s1 m2 s2 : Int) : Int := if goodB m1 s1 && goodB m2 s2 then decSv (m1.natAbs * m2.natAbs) (s1 + s2).toNat else 0

theorem good_range {M S : Int} (h : goodB M S = true) : 0 ≤ S ∧ S ≤ 18 ∧ M ≠ -9223372036854775808 := by unfold goodB at h; simp at h; omega

set_option maxHeartbeats 20000000 in
set_option maxRecDepth 100000 in
theorem Times_any (m1 s1 m2 s2 : Int) (w : World) (hM1 : I64 m1) (hS1 : I64 s1) (hM2 : I64 m2) (hS2 : I64 s2) :
    Calls Try.prog 11 #[decV m1 s1, decV m2 s2] w fun e w' => e = .returned (.tuple #[decV (mulM m1 s1 m2 s2) (mulS m1 s1 m2 s2), .bool (mulOk m1 s1 m2 s2)]) ∧ Ext w w' := by
  have G1 := fun w => Good_any m1 s1 w hM1 hS1
  have G2 := fun w => Good_any m2 s2 w hM2 hS2
  unfold decV at G1 G2 ⊢
  have hx : Ext w (((w.alloc (.cells #[.int .i64 m1, .int .i64 s1] 25)).alloc (.cells #[.int .i64 m2, .int .i64 s2] 25)).alloc (.cells #[.int .i64 0, .int .i64 0] 25)) := (((Ext.refl _).alloc _).alloc _).alloc _
  have h1 : DecIn w.heap.size m1 s1 (((w.alloc (.cells #[.int .i64 m1, .int .i64 s1] 25)).alloc (.cells #[.int .i64 m2, .int .i64 s2] 25)).alloc (.cells #[.int .i64 0, .int .i64 0] 25)) := heap_at3a _ _ _ _
  have h2 : DecIn (w.heap.size + 1) m2 s2 (((w.alloc (.cells #[.int .i64 m1, .int .i64 s1] 25)).alloc (.cells #[.int .i64 m2, .int .i64 s2] 25)).alloc (.cells #[.int .i64 0, .int .i64 0] 25)) := heap_at3b _ _ _ _
  have h3 : DecIn (w.heap.size + 2) 0 0 (((w.alloc (.cells #[.int .i64 m1, .int .i64 s1] 25)).alloc (.cells #[.int .i64 m2, .int .i64 s2] 25)).alloc (.cells #[.int .i64 0, .int .i64 0] 25)) := heap_at3c _ _ _ _
  by_cases g1 : goodB m1 s1 = true
  · rw [g1] at G1
    by_cases g2 : goodB m2 s2 = true
    · rw [g2] at G2
      obtain ⟨a1, a2, a3⟩ := good_range g1
      obtain ⟨b1, b2, b3⟩ := good_range g2
      have HR : Hid (mulM m1 s1 m2 s2 = decMv (decide (m1 < 0) != decide (m2 < 0)) (m1.natAbs * m2.natAbs) (s1 + s2).toNat ∧ mulS m1 s1 m2 s2 = decSv (m1.natAbs * m2.natAbs) (s1 + s2).toNat ∧ mulOk m1 s1 m2 s2 = decOk (m1.natAbs * m2.natAbs) (s1 + s2).toNat) := by
        unfold Hid mulM mulS mulOk; rw [g1, g2]; exact ⟨rfl, rfl, rfl⟩
      have hA1 : m1.natAbs < W64 := by unfold I64 W64 at *; omega
      have hA2 : m2.natAbs < W64 := by unfold I64 W64 at *; omega
      have hN : m1.natAbs * m2.natAbs < W256 := by
        have h := Nat.mul_lt_mul'' hA1 hA2
        have h2 : W64 * W64 < W256 := by decide
        omega
      have C1 := fun w => abs_ext m1 w hM1
      have C2 := fun w => abs_ext m2 w hM2
      have C3 : ∀ w, Calls Try.prog 28 #[.int .u64 (m1.natAbs : Int)] w fun e w' => e = .returned (wideV m1.natAbs) ∧ Ext w w' := fun w => of_any m1.natAbs w hA1
      have C4 : ∀ w, Calls Try.prog 30 #[wideV m1.natAbs, .int .u64 (m2.natAbs : Int)] w fun e w' => e = .returned (wideV (m1.natAbs * m2.natAbs)) ∧ Ext w w' := fun w => times_any m1.natAbs m2.natAbs w (by unfold W64 W256 at *; omega) hA2 hN
      have C5 : ∀ n w, Calls Try.prog 26 #[.agg #[.bool n, .int .u64 (wd (m1.natAbs * m2.natAbs) 0 : Int), .int .u64 (wd (m1.natAbs * m2.natAbs) 1 : Int), .int .u64 (wd (m1.natAbs * m2.natAbs) 2 : Int), .int .u64 (wd (m1.natAbs * m2.natAbs) 3 : Int), .int .i64 (IntKind.i64.wrap (s1 + s2))]] w fun e w' => e = .returned (.tuple #[.agg #[.int .i64 (decMv n (m1.natAbs * m2.natAbs) (s1 + s2).toNat), .int .i64 (decSv (m1.natAbs * m2.natAbs) (s1 + s2).toNat)], .bool (decOk (m1.natAbs * m2.natAbs) (s1 + s2).toNat)]) ∧ Ext w w' := fun n w => by
        have := dec_any n (m1.natAbs * m2.natAbs) (s1 + s2).toNat w hN (by omega)
        rw [show (((s1 + s2).toNat : Nat) : Int) = IntKind.i64.wrap (s1 + s2) from by rw [IntWalk.i64_in _ (by omega)]; omega] at this
        exact this
      generalize m1.natAbs * m2.natAbs = N at *
      generalize m1.natAbs = A1 at *
      generalize m2.natAbs = A2 at *
      unfold wideV at C3 C4
      clear hA1 hA2 hN hM1 hS1 hM2 hS2 g1 g2
      go_enter Try.func11, Try.ntmps11
      go_wp2_with fail
      generalize ((w.alloc (.cells #[.int .i64 m1, .int .i64 s1] 25)).alloc (.cells #[.int .i64 m2, .int .i64 s2] 25)).alloc (.cells #[.int .i64 0, .int .i64 0] 25) = W at *
      refine (G1 _).mono ?_
      rintro e wa ⟨rfl, xa⟩
      replace h2 := h2.ext xa
      obtain ⟨c0, c1⟩ := h2.cells
      go_wp2_with fail
      refine (G2 _).mono ?_
      rintro e wb ⟨rfl, xb⟩
      clear c0 c1
      replace h1 := (h1.ext xa).ext xb
      replace h2 := h2.ext xb
      replace h3 := (h3.ext xa).ext xb
      replace hx := (hx.trans xa).trans xb
      obtain ⟨c0, c1⟩ := h1.cells
      obtain ⟨d0, d1⟩ := h2.cells
      go_wp2_with fail
      have F1 := fun w0 (h : TwoIn w w.heap.size (w.heap.size + 1) m1 s1 m2 s2 w0) => two_keepx h (C1 w0)
      have F2 := fun w0 (h : TwoIn w w.heap.size (w.heap.size + 1) m1 s1 m2 s2 w0) => two_keepx h (C2 w0)
      have F3 := fun w0 (h : TwoIn w w.heap.size (w.heap.size + 1) m1 s1 m2 s2 w0) => two_keepx h (C3 w0)
      have F4 := fun w0 (h : TwoIn w w.heap.size (w.heap.size + 1) m1 s1 m2 s2 w0) => two_keepx h (C4 w0)
      have F5 := fun n w0 (h : TwoIn w w.heap.size (w.heap.size + 1) m1 s1 m2 s2 w0) => two_keepx h (C5 n w0)
      clear C1 C2 C3 C4 C5 G1 G2
      have hP : TwoIn w w.heap.size (w.heap.size + 1) m1 s1 m2 s2 wb.drew := ⟨hx.drew, h1.ext (Ext.refl wb).drew, h2.ext (Ext.refl wb).drew⟩
      have k8 : DecIn (w.heap.size + 2) 0 0 wb.drew := h3.ext (Ext.refl wb).drew
      have nb0 : w.heap.size + 1 + 1 ≠ w.heap.size := by omega
      go_region_held3 (fun w' => w'.cell? ⟨w.heap.size, 0, none⟩ = some (.int .i64 m1) ∧ w'.cell? ⟨w.heap.size, 1, none⟩ = some (.int .i64 s1) ∧ w'.cell? ⟨w.heap.size + 1, 0, none⟩ = some (.int .i64 m2) ∧ w'.cell? ⟨w.heap.size + 1, 1, none⟩ = some (.int .i64 s2)) (first | exact ⟨p0, p1, q0, q1⟩ | exact ⟨c0, c1, d0, d1⟩ | go_keep) (first
        | (go_at_call 29; (with_reducible refine (F1 _ ?h).mono ?_); (case h => first | exact H | exact hP); rintro e wy ⟨rfl, x, H, p0, p1, q0, q1, -⟩; (have k8 := k8.ext x); (have k8c := k8.cells); (have k8f := k8.free))
        | (go_at_call 29; (with_reducible refine (F2 _ ?h).mono ?_); (case h => first | exact H | exact hP); rintro e wy ⟨rfl, x, H, p0, p1, q0, q1, -⟩; (have k8 := k8.ext x); (have k8c := k8.cells); (have k8f := k8.free))
        | (go_at_call 28; (with_reducible refine (F3 _ ?h).mono ?_); (case h => first | exact H | exact hP); rintro e wy ⟨rfl, x, H, p0, p1, q0, q1, -⟩; (have k8 := k8.ext x); (have k8c := k8.cells); (have k8f := k8.free))
        | (go_at_call 30; (with_reducible refine (F4 _ ?h).mono ?_); (case h => first | exact H | exact hP); rintro e wy ⟨rfl, x, H, p0, p1, q0, q1, -⟩; (have k8 := k8.ext x); (have k8c := k8.cells); (have k8f := k8.free))
        | (go_at_call 26; (with_reducible refine (F5 _ _ ?h).mono ?_); (case h => first | exact H | exact hP); rintro e wy ⟨rfl, x, H, p0, p1, q0, q1, -⟩; (have k8 := k8.ext x); (have k8c := k8.cells); (have k8f := k8.free)))
      all_goals
        go_wp2_with fail
        obtain ⟨r1, r2, r3⟩ := HR.out
        rw [r1, r2, r3]
        refine bodyPost_ret (v := .tuple #[decV (decMv (!(decide (m1 < 0) == decide (m2 < 0))) N (s1 + s2).toNat) (decSv N (s1 + s2).toNat), .bool (decOk N (s1 + s2).toNat)]) ?_ rfl ⟨rfl, ext_setDec H.1 (by omega) _ _⟩
        obtain ⟨t0, t1⟩ := (k8.stored (decMv (!(decide (m1 < 0) == decide (m2 < 0))) N (s1 + s2).toNat) (decSv N (s1 + s2).toNat)).cells
        change (results Try.f11 _).run Try.prog (setDec wy (w.heap.size + 2) (decMv (!(decide (m1 < 0) == decide (m2 < 0))) N (s1 + s2).toNat) (decSv N (s1 + s2).toNat)) = .ok _ (setDec wy (w.heap.size + 2) (decMv (!(decide (m1 < 0) == decide (m2 < 0))) N (s1 + s2).toNat) (decSv N (s1 + s2).toNat))
        generalize setDec wy (w.heap.size + 2) (decMv (!(decide (m1 < 0) == decide (m2 < 0))) N (s1 + s2).toNat) (decSv N (s1 + s2).toNat) = W' at *
        simp [results, Try.results11, go_sem, t0, t1, decV]
    · replace g2 : goodB m2 s2 = false := by simpa using g2
      rw [g2] at G2
      have HR : Hid (mulM m1 s1 m2 s2 = 0 ∧ mulS m1 s1 m2 s2 = 0 ∧ mulOk m1 s1 m2 s2 = false) := by
        unfold Hid mulM mulS mulOk; rw [g2]; simp
      go_enter Try.func11, Try.ntmps11
      go_wp2_with fail
      generalize ((w.alloc (.cells #[.int .i64 m1, .int .i64 s1] 25)).alloc (.cells #[.int .i64 m2, .int .i64 s2] 25)).alloc (.cells #[.int .i64 0, .int .i64 0] 25) = W at *
      refine (G1 _).mono ?_
      rintro e wa ⟨rfl, xa⟩
      replace h2 := h2.ext xa
      obtain ⟨c0, c1⟩ := h2.cells
      go_wp2_with fail
      refine (G2 _).mono ?_
      rintro e wb ⟨rfl, xb⟩
      clear c0 c1
      replace xa := xa.trans xb
      replace h3 := h3.ext xa
      replace hx := hx.trans xa
      obtain ⟨c0, c1⟩ := h3.cells
      obtain ⟨f0, f1⟩ := h3.free
      go_wp2_with fail
      obtain ⟨r1, r2, r3⟩ := HR.out
      rw [r1, r2, r3]
      refine bodyPost_ret (v := .tuple #[decV 0 0, .bool false]) ?_ rfl ⟨rfl, ext_setDec hx (by omega) _ _⟩
      obtain ⟨t0, t1⟩ := (h3.stored 0 0).cells
      change (results Try.f11 _).run Try.prog (setDec wb (w.heap.size + 2) 0 0) = .ok _ (setDec wb (w.heap.size + 2) 0 0)
      generalize setDec wb (w.heap.size + 2) 0 0 = W' at *
      simp [results, Try.results11, go_sem, t0, t1, decV]
  · replace g1 : goodB m1 s1 = false := by simpa using g1
    rw [g1] at G1
    have HR : Hid (mulM m1 s1 m2 s2 = 0 ∧ mulS m1 s1 m2 s2 = 0 ∧ mulOk m1 s1 m2 s2 = false) := by
      unfold Hid mulM mulS mulOk; rw [g1]; simp
    go_enter Try.func11, Try.ntmps11
    go_wp2_with fail
    generalize ((w.alloc (.cells #[.int .i64 m1, .int .i64 s1] 25)).alloc (.cells #[.int .i64 m2, .int .i64 s2] 25)).alloc (.cells #[.int .i64 0, .int .i64 0] 25) = W at *
    refine (G1 _).mono ?_
    rintro e wa ⟨rfl, xa⟩
    replace h3 := h3.ext xa
    replace hx := hx.trans xa
    obtain ⟨c0, c1⟩ := h3.cells
    obtain ⟨f0, f1⟩ := h3.free
    go_wp2_with fail
    obtain ⟨r1, r2, r3⟩ := HR.out
    rw [r1, r2, r3]
    refine bodyPost_ret (v := .tuple #[decV 0 0, .bool false]) ?_ rfl ⟨rfl, ext_setDec hx (by omega) _ _⟩
    obtain ⟨t0, t1⟩ := (h3.stored 0 0).cells
    change (results Try.f11 _).run Try.prog (setDec wa (w.heap.size + 2) 0 0) = .ok _ (setDec wa (w.heap.size + 2) 0 0)
    generalize setDec wa (w.heap.size + 2) 0 0 = W' at *
    simp [results, Try.results11, go_sem, t0, t1, decV]
end Go.Proofs.Ythfihlapgoglaaa
