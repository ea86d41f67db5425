/- The walk of sum.wide's power. -/
import Derived.Test.YtbkhdjbhijmghaaWideD
import Derived.Lib.FrozenHead
namespace Go.Proofs.Ytbkhdjbhijmghaa
open Go.RowKit

/-- A number of four words in memory, in block b. -/
def WideIn (b N : Nat) (w : World) : Prop := w.heap[b]? = some (.cells #[.int .u64 (wd N 0 : Int), .int .u64 (wd N 1 : Int), .int .u64 (wd N 2 : Int), .int .u64 (wd N 3 : Int)] 58 (0, 0))
theorem WideIn.ext {b N : Nat} {w w' : World} (h : WideIn b N w) (hk : Ext w w') : WideIn b N w' := (hk.heap (Array.getElem?_eq_some_iff.1 h).1).trans h
theorem WideIn.cells {b N : Nat} {w : World} (h : WideIn b N w) :
    w.cell? ⟨b, 0, none⟩ = some (.int .u64 (wd N 0 : Int)) ∧ w.cell? ⟨b, 1, none⟩ = some (.int .u64 (wd N 1 : Int)) ∧ w.cell? ⟨b, 2, none⟩ = some (.int .u64 (wd N 2 : Int)) ∧ w.cell? ⟨b, 3, none⟩ = some (.int .u64 (wd N 3 : Int)) := by
  refine ⟨?_, ?_, ?_, ?_⟩ <;> (rw [Lib.cell_of_heap h]; rfl)
theorem WideIn.free {b N : Nat} {w : World} (h : WideIn b N w) :
    w.frozen? ⟨b, 0, none⟩ = false ∧ w.frozen? ⟨b, 1, none⟩ = false ∧ w.frozen? ⟨b, 2, none⟩ = false ∧ w.frozen? ⟨b, 3, none⟩ = false :=
  ⟨Lib.frozen_of_heap h 0, Lib.frozen_of_heap h 1, Lib.frozen_of_heap h 2, Lib.frozen_of_heap h 3⟩

/-- The four words stored. -/
def setWide (w : World) (b N : Nat) : World := (((w.setCell ⟨b, 0, none⟩ (.int .u64 (wd N 0 : Int))).setCell ⟨b, 1, none⟩ (.int .u64 (wd N 1 : Int))).setCell ⟨b, 2, none⟩ (.int .u64 (wd N 2 : Int))).setCell ⟨b, 3, none⟩ (.int .u64 (wd N 3 : Int))
theorem WideIn.stored {b N : Nat} {w : World} (h : WideIn b N w) (N' : Nat) : WideIn b N' (setWide w b N') := by
  unfold WideIn at *
  simp [setWide, World.setCell, Array.getElem?_modify, h]
theorem heap_setWide (w : World) (b N k : Nat) (h : k ≠ b) : (setWide w b N).heap[k]? = w.heap[k]? := by
  unfold setWide
  rw [Below.heap_setCell _ _ _ _ h, Below.heap_setCell _ _ _ _ h, Below.heap_setCell _ _ _ _ h, Below.heap_setCell _ _ _ _ h]
theorem ext_setWide {a w : World} (h : Ext a w) {b : Nat} (hb : a.heap.size ≤ b) (N : Nat) : Ext a (setWide w b N) :=
  ext_setCell (ext_setCell (ext_setCell (ext_setCell h hb _) hb _) hb _) hb _

theorem heap_last (w : World) (o : Obj) : (w.alloc o).heap[w.heap.size]? = some o := by
  show (w.heap.push o)[w.heap.size]? = some o
  simp
theorem heap_size_alloc (w : World) (o : Obj) : (w.alloc o).heap.size = w.heap.size + 1 := by
  show (w.heap.push o).size = _
  simp

theorem pow_step {A n k i : Nat} (hn : 0 < n) (h : i ≤ k) (hp : A * n ^ k < W256) : A * n ^ i < W256 :=
  Nat.lt_of_le_of_lt (Nat.mul_le_mul_left _ (Nat.pow_le_pow_right hn h)) hp

set_option maxHeartbeats 2000000 in
set_option maxRecDepth 100000 in
theorem power_any (A n k : Nat) (w : World) (hn0 : 0 < n) (hn : n < W64) (hk : k < 1000) (hp : A * n ^ k < W256) :
    Calls Try.prog 52 #[wideV A, .int .u64 n, .int .i64 k] w fun e w' => e = .returned (wideV (A * n ^ k)) ∧ Ext w w' := by
  have hA : A < W256 := by simpa using pow_step (i := 0) hn0 (Nat.zero_le _) hp
  unfold wideV
  go_enter Try.func52, Try.ntmps52
  go_wp2_with fail
  go_loopw [8] (fun i wr => ∃ i' : Nat, i' ≤ k ∧ i = .int .i64 i' ∧ WideIn w.heap.size (A * n ^ i') wr ∧ WideIn (w.heap.size + 1) 0 wr ∧ Ext w wr) (fun i _ => k - (intOf i).toNat)
  case atStart =>
    refine ⟨0, Nat.zero_le _, rfl, ?_, ?_, ((Ext.refl _).alloc _).alloc _⟩
    · rw [Nat.pow_zero, Nat.mul_one]
      exact (Below.heap_alloc _ _ _ (by rw [heap_size_alloc]; omega)).trans (heap_last _ _)
    · unfold WideIn
      have z0 : wd 0 0 = 0 := by decide
      have z1 : wd 0 1 = 0 := by decide
      have z2 : wd 0 2 = 0 := by decide
      have z3 : wd 0 3 = 0 := by decide
      rw [z0, z1, z2, z3, ← heap_size_alloc w]
      exact heap_last _ _
  case round =>
    obtain ⟨i', hi, rfl, h1, h2, hx⟩ := hrel
    obtain ⟨c0, c1, c2, c3⟩ := h1.cells
    by_cases hlt : i' < k
    · go_wp2_with fail
      refine (times_any (A * n ^ i') n wr (pow_step hn0 hi hp) hn (by have := pow_step (i := i' + 1) hn0 hlt hp; rwa [Nat.pow_succ, ← Nat.mul_assoc] at this)).mono ?_
      rintro e w1 ⟨rfl, x1⟩
      have h1' := h1.ext x1
      have h2' := h2.ext x1
      obtain ⟨d0, d1, d2, d3⟩ := h1'.cells
      obtain ⟨f0, f1, f2, f3⟩ := h1'.free
      clear c0 c1 c2 c3
      unfold wideV
      go_wp2_with fail
      go_roundw
      case rel =>
        refine ⟨i' + 1, hlt, rfl, ?_, ?_, ?_⟩
        · rw [Nat.pow_succ, ← Nat.mul_assoc]; exact h1'.stored _
        · exact (heap_setWide _ _ _ _ (by omega)).trans h2'
        · exact ext_setWide (hx.trans x1) (Nat.le_refl _) _
      case measure => simp only [intOf]; omega
    · obtain rfl : i' = k := by omega
      obtain ⟨d0, d1, d2, d3⟩ := h2.cells
      obtain ⟨f0, f1, f2, f3⟩ := h2.free
      go_wp2_with fail
      refine bodyPost_ret (v := wideV (A * n ^ i')) ?_ rfl ⟨rfl, ?_⟩
      · obtain ⟨e0, e1, e2, e3⟩ := (h2.stored (A * n ^ i')).cells
        change (results Try.f52 _).run Try.prog (setWide wr (w.heap.size + 1) (A * n ^ i')) = .ok _ (setWide wr (w.heap.size + 1) (A * n ^ i'))
        clear d0 d1 d2 d3 f0 f1 f2 f3 c0 c1 c2 c3
        generalize setWide wr (w.heap.size + 1) (A * n ^ i') = W at *
        simp [results, Try.results52, go_sem, e0, e1, e2, e3, wideV]
      · exact ext_setWide hx (Nat.le_succ _) _
end Go.Proofs.Ytbkhdjbhijmghaa
