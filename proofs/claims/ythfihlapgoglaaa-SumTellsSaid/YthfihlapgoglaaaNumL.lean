/- The walk of sum.Over where there is no quotient: one may not be, or the divisor is 0. -/
import Derived.Test.YthfihlapgoglaaaNumK
namespace Go.Proofs.Ythfihlapgoglaaa
open Go.RowKit

set_option maxHeartbeats 20000000 in
set_option maxRecDepth 100000 in
theorem Over_bad (m1 s1 m2 s2 : Int) (w : World) (hM1 : I64 m1) (hS1 : I64 s1) (hM2 : I64 m2) (hS2 : I64 s2) (hb : ¬(goodB m1 s1 = true ∧ goodB m2 s2 = true ∧ m2 ≠ 0)) :
    Calls Try.prog 13 #[decV m1 s1, decV m2 s2] w fun e w' => e = .returned (.tuple #[decV 0 0, .bool false]) ∧ Ext w w' := by
  have G1 := fun w => Good_any m1 s1 w hM1 hS1
  have G2 := fun w => Good_any m2 s2 w hM2 hS2
  unfold decV at G1 G2 ⊢
  have HT : Tri w m1 s1 m2 s2 (((w.alloc (.cells #[.int .i64 m1, .int .i64 s1] 25)).alloc (.cells #[.int .i64 m2, .int .i64 s2] 25)).alloc (.cells #[.int .i64 0, .int .i64 0] 25)) := ⟨(((Ext.refl _).alloc _).alloc _).alloc _, heap_at3a _ _ _ _, heap_at3b _ _ _ _, heap_at3c _ _ _ _⟩
  clear hM1 hS1 hM2 hS2
  by_cases g1 : goodB m1 s1 = true
  · rw [g1] at G1
    by_cases g2 : goodB m2 s2 = true
    · rw [g2] at G2
      have hz : m2 = 0 := by
        by_cases h : m2 = 0
        · exact h
        · exact absurd ⟨g1, g2, h⟩ hb
      clear g1 g2 hb
      subst hz
      go_enter Try.func13, Try.ntmps13
      go_wp2_with fail
      generalize ((w.alloc (.cells #[.int .i64 m1, .int .i64 s1] 25)).alloc (.cells #[.int .i64 0, .int .i64 s2] 25)).alloc (.cells #[.int .i64 0, .int .i64 0] 25) = W at *
      refine (G1 _).mono ?_
      rintro e wa ⟨rfl, xa⟩
      replace HT := HT.ext xa
      obtain ⟨c0, c1⟩ := HT.2.2.1.cells
      go_wp2_with fail
      refine (G2 _).mono ?_
      rintro e wb ⟨rfl, xb⟩
      replace HT := HT.ext xb
      clear c0 c1
      obtain ⟨d0, d1⟩ := HT.2.2.1.cells
      obtain ⟨c0, c1⟩ := HT.2.2.2.cells
      obtain ⟨f0, f1⟩ := HT.2.2.2.free
      go_wp2_with fail
      refine bodyPost_ret (v := .tuple #[decV 0 0, .bool false]) ?_ rfl ⟨rfl, ext_setDec HT.1 (by omega) _ _⟩
      obtain ⟨t0, t1⟩ := (HT.2.2.2.stored 0 0).cells
      change (results Try.f13 _).run Try.prog (setDec wb (w.heap.size + 2) 0 0) = .ok _ (setDec wb (w.heap.size + 2) 0 0)
      generalize setDec wb (w.heap.size + 2) 0 0 = W' at *
      simp [results, Try.results13, go_sem, t0, t1, decV]
    · replace g2 : goodB m2 s2 = false := by simpa using g2
      rw [g2] at G2
      clear g1 g2 hb
      go_enter Try.func13, Try.ntmps13
      go_wp2_with fail
      generalize ((w.alloc (.cells #[.int .i64 m1, .int .i64 s1] 25)).alloc (.cells #[.int .i64 m2, .int .i64 s2] 25)).alloc (.cells #[.int .i64 0, .int .i64 0] 25) = W at *
      refine (G1 _).mono ?_
      rintro e wa ⟨rfl, xa⟩
      replace HT := HT.ext xa
      obtain ⟨c0, c1⟩ := HT.2.2.1.cells
      go_wp2_with fail
      refine (G2 _).mono ?_
      rintro e wb ⟨rfl, xb⟩
      replace HT := HT.ext xb
      clear c0 c1
      obtain ⟨c0, c1⟩ := HT.2.2.2.cells
      obtain ⟨f0, f1⟩ := HT.2.2.2.free
      go_wp2_with fail
      refine bodyPost_ret (v := .tuple #[decV 0 0, .bool false]) ?_ rfl ⟨rfl, ext_setDec HT.1 (by omega) _ _⟩
      obtain ⟨t0, t1⟩ := (HT.2.2.2.stored 0 0).cells
      change (results Try.f13 _).run Try.prog (setDec wb (w.heap.size + 2) 0 0) = .ok _ (setDec wb (w.heap.size + 2) 0 0)
      generalize setDec wb (w.heap.size + 2) 0 0 = W' at *
      simp [results, Try.results13, go_sem, t0, t1, decV]
  · replace g1 : goodB m1 s1 = false := by simpa using g1
    rw [g1] at G1
    clear g1 hb G2
    go_enter Try.func13, Try.ntmps13
    go_wp2_with fail
    generalize ((w.alloc (.cells #[.int .i64 m1, .int .i64 s1] 25)).alloc (.cells #[.int .i64 m2, .int .i64 s2] 25)).alloc (.cells #[.int .i64 0, .int .i64 0] 25) = W at *
    refine (G1 _).mono ?_
    rintro e wa ⟨rfl, xa⟩
    replace HT := HT.ext xa
    obtain ⟨c0, c1⟩ := HT.2.2.2.cells
    obtain ⟨f0, f1⟩ := HT.2.2.2.free
    go_wp2_with fail
    refine bodyPost_ret (v := .tuple #[decV 0 0, .bool false]) ?_ rfl ⟨rfl, ext_setDec HT.1 (by omega) _ _⟩
    obtain ⟨t0, t1⟩ := (HT.2.2.2.stored 0 0).cells
    change (results Try.f13 _).run Try.prog (setDec wa (w.heap.size + 2) 0 0) = .ok _ (setDec wa (w.heap.size + 2) 0 0)
    generalize setDec wa (w.heap.size + 2) 0 0 = W' at *
    simp [results, Try.results13, go_sem, t0, t1, decV]
end Go.Proofs.Ythfihlapgoglaaa
