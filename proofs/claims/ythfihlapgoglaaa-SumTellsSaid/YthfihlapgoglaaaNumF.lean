/- The walks of sum.Neg, sum.Compare. -/
import Derived.Test.YthfihlapgoglaaaNumE
namespace Go.Proofs.Ythfihlapgoglaaa
open Go.RowKit

/-- A decimal, 0 for one that may not be. -/
def cM (M S : Int) : Int := if goodB M S then M else 0
def cS (M S : Int) : Int := if goodB M S then S else 0
theorem cS_range (M S : Int) : 0 ≤ cS M S ∧ cS M S ≤ 18 := by
  unfold cS goodB
  split
  · rename_i h; simp at h; omega
  · omega
theorem cM_range (M S : Int) (h : I64 M) : -9223372036854775807 ≤ cM M S ∧ cM M S ≤ 9223372036854775807 := by
  unfold I64 at h
  unfold cM goodB
  split
  · rename_i h; simp at h; omega
  · omega

set_option maxHeartbeats 2000000 in
set_option maxRecDepth 100000 in
theorem Neg_any (M S : Int) (w : World) (hM : I64 M) (hS : I64 S) :
    Calls Try.prog 19 #[decV M S] w fun e w' => e = .returned (decV (-cM M S) (cS M S)) ∧ Ext w w' := by
  have C : ∀ w, Calls Try.prog 41 #[.agg #[.int .i64 M, .int .i64 S]] w fun e w' => e = .returned (.agg #[.int .i64 (cM M S), .int .i64 (cS M S)]) ∧ Ext w w' := fun w => counted_any M S w hM hS
  have hm := cM_range M S hM
  generalize cM M S = m at *
  generalize cS M S = s at *
  unfold decV
  clear hM hS
  have hx : Ext w ((w.alloc (.cells #[.int .i64 M, .int .i64 S] 25)).alloc (.cells #[.int .i64 0, .int .i64 0] 25)) := ((Ext.refl _).alloc _).alloc _
  have h1 : DecIn w.heap.size M S ((w.alloc (.cells #[.int .i64 M, .int .i64 S] 25)).alloc (.cells #[.int .i64 0, .int .i64 0] 25)) := heap_at2a _ _ _
  have h2 : DecIn (w.heap.size + 1) 0 0 ((w.alloc (.cells #[.int .i64 M, .int .i64 S] 25)).alloc (.cells #[.int .i64 0, .int .i64 0] 25)) := heap_at2b _ _ _
  go_enter Try.func19, Try.ntmps19
  go_wp2_with fail
  refine (C _).mono ?_
  rintro e w1 ⟨rfl, x1⟩
  replace h1 := h1.ext x1
  replace h2 := h2.ext x1
  obtain ⟨c0, c1⟩ := h1.cells
  obtain ⟨f0, f1⟩ := h1.free
  obtain ⟨d0, d1⟩ := h2.cells
  obtain ⟨g0, g1⟩ := h2.free
  go_wp2_with fail
  refine bodyPost_ret (v := decV (-m) s) ?_ rfl ⟨rfl, ext_setDec (ext_setDec (hx.trans x1) (Nat.le_refl _) m s) (Nat.le_succ _) _ _⟩
  have k2 : DecIn (w.heap.size + 1) 0 0 (setDec w1 w.heap.size m s) := (heap_setDec _ _ _ _ _ (by omega)).trans h2
  obtain ⟨e0, e1⟩ := (k2.stored (-m) s).cells
  change (results Try.f19 _).run Try.prog (setDec (setDec w1 w.heap.size m s) (w.heap.size + 1) (-m) s) = .ok _ (setDec (setDec w1 w.heap.size m s) (w.heap.size + 1) (-m) s)
  generalize setDec (setDec w1 w.heap.size m s) (w.heap.size + 1) (-m) s = W' at *
  simp [results, Try.results19, go_sem, e0, e1, decV]
end Go.Proofs.Ythfihlapgoglaaa
