/- The walks of sum.numberOf, number.compare, plus. -/
import Derived.Test.YtbkhdjbhijmghaaNumA
import Derived.Deep.RegionHeld3
import Derived.IntWalk
namespace Go.Proofs.Ytbkhdjbhijmghaa
open Go.RowKit

/-- A number with a sign, divided by a power of ten, as a value. -/
def numV (neg : Bool) (N : Nat) (s : Int) : Value := .agg #[.bool neg, .int .u64 (wd N 0 : Int), .int .u64 (wd N 1 : Int), .int .u64 (wd N 2 : Int), .int .u64 (wd N 3 : Int), .int .i64 s]
/-- It in memory. -/
def numCells (neg : Bool) (N : Nat) (s : Int) : Array Value := #[.bool neg, .int .u64 (wd N 0 : Int), .int .u64 (wd N 1 : Int), .int .u64 (wd N 2 : Int), .int .u64 (wd N 3 : Int), .int .i64 s]

theorem numberOf_held {w w' : World} {b : Nat} {M S : Int} (x : Ext w w') (hz : b + 2 ≤ w.heap.size) (h : w.cell? ⟨b, 0, none⟩ = some (.int .i64 M) ∧ w.cell? ⟨b, 1, none⟩ = some (.int .i64 S) ∧ w.cell? ⟨b + 1, 0, none⟩ = some (.bool false) ∧ w.frozen? ⟨b + 1, 0, none⟩ = false ∧ w.cell? ⟨b + 1, 1, none⟩ = some (.int .u64 0) ∧ w.frozen? ⟨b + 1, 1, none⟩ = false ∧ w.cell? ⟨b + 1, 2, none⟩ = some (.int .u64 0) ∧ w.frozen? ⟨b + 1, 2, none⟩ = false ∧ w.cell? ⟨b + 1, 3, none⟩ = some (.int .u64 0) ∧ w.frozen? ⟨b + 1, 3, none⟩ = false ∧ w.cell? ⟨b + 1, 4, none⟩ = some (.int .u64 0) ∧ w.frozen? ⟨b + 1, 4, none⟩ = false ∧ w.cell? ⟨b + 1, 5, none⟩ = some (.int .i64 0) ∧ w.frozen? ⟨b + 1, 5, none⟩ = false) :
    w'.cell? ⟨b, 0, none⟩ = some (.int .i64 M) ∧ w'.cell? ⟨b, 1, none⟩ = some (.int .i64 S) ∧ w'.cell? ⟨b + 1, 0, none⟩ = some (.bool false) ∧ w'.frozen? ⟨b + 1, 0, none⟩ = false ∧ w'.cell? ⟨b + 1, 1, none⟩ = some (.int .u64 0) ∧ w'.frozen? ⟨b + 1, 1, none⟩ = false ∧ w'.cell? ⟨b + 1, 2, none⟩ = some (.int .u64 0) ∧ w'.frozen? ⟨b + 1, 2, none⟩ = false ∧ w'.cell? ⟨b + 1, 3, none⟩ = some (.int .u64 0) ∧ w'.frozen? ⟨b + 1, 3, none⟩ = false ∧ w'.cell? ⟨b + 1, 4, none⟩ = some (.int .u64 0) ∧ w'.frozen? ⟨b + 1, 4, none⟩ = false ∧ w'.cell? ⟨b + 1, 5, none⟩ = some (.int .i64 0) ∧ w'.frozen? ⟨b + 1, 5, none⟩ = false := by
  have h0 : b < w.heap.size := by omega
  have h1 : b + 1 < w.heap.size := by omega
  obtain ⟨g0, g1, g2, g3, g4, g5, g6, g7, g8, g9, g10, g11, g12, g13⟩ := h
  exact ⟨(x.cell (p := ⟨b, 0, none⟩) h0).trans g0, (x.cell (p := ⟨b, 1, none⟩) h0).trans g1, (x.cell (p := ⟨b + 1, 0, none⟩) h1).trans g2, (x.frozen (p := ⟨b + 1, 0, none⟩) h1).trans g3, (x.cell (p := ⟨b + 1, 1, none⟩) h1).trans g4, (x.frozen (p := ⟨b + 1, 1, none⟩) h1).trans g5, (x.cell (p := ⟨b + 1, 2, none⟩) h1).trans g6, (x.frozen (p := ⟨b + 1, 2, none⟩) h1).trans g7, (x.cell (p := ⟨b + 1, 3, none⟩) h1).trans g8, (x.frozen (p := ⟨b + 1, 3, none⟩) h1).trans g9, (x.cell (p := ⟨b + 1, 4, none⟩) h1).trans g10, (x.frozen (p := ⟨b + 1, 4, none⟩) h1).trans g11, (x.cell (p := ⟨b + 1, 5, none⟩) h1).trans g12, (x.frozen (p := ⟨b + 1, 5, none⟩) h1).trans g13⟩

set_option maxHeartbeats 4000000 in
set_option maxRecDepth 100000 in
theorem numberOf_any (M S s : Int) (k : Nat) (w : World) (hM : I64 M) (hs : s - S = (k : Int)) (hk : k < 1000) (hp : M.natAbs * 10 ^ k < W256) :
    Calls Try.prog 36 #[decV M S, .int .i64 s] w fun e w' => e = .returned (numV (decide (M < 0)) (M.natAbs * 10 ^ k) s) ∧ Ext w w' := by
  unfold decV
  have hb : M.natAbs < W64 := by unfold I64 W64 at *; omega
  have C1 := fun w => abs_any M w hM
  have C2 := fun w => of_any M.natAbs w hb
  have C3 : ∀ w, Calls Try.prog 52 #[wideV M.natAbs, .int .u64 10, .int .i64 k] w fun e w' => e = .returned (wideV (M.natAbs * 10 ^ k)) ∧ Ext w w' := fun w => power_any M.natAbs 10 k w (by decide) (by decide) hk hp
  have e1 : IntKind.i64.wrap (s - S) = (k : Int) := by rw [hs]; exact IntWalk.i64_in _ (by omega)
  clear hs hp hb
  generalize hN : M.natAbs * 10 ^ k = N at *
  generalize hA : M.natAbs = A at *
  clear hN hA
  have C3' : ∀ w, Calls Try.prog 52 #[wideV A, .int .u64 10, .int .i64 k] w fun e w' => e = .returned (.agg #[.int .u64 (wd N 0 : Int), .int .u64 (wd N 1 : Int), .int .u64 (wd N 2 : Int), .int .u64 (wd N 3 : Int)]) ∧ Ext w w' := C3
  clear C3
  go_enter Try.func36, Try.ntmps36
  go_wp2_with fail
  have hx : Ext w ((w.alloc (.cells #[.int .i64 M, .int .i64 S] 24)).alloc (.cells #[.bool false, .int .u64 0, .int .u64 0, .int .u64 0, .int .u64 0, .int .i64 0] 60)) := ((Ext.refl _).alloc _).alloc _
  have hz : w.heap.size + 2 ≤ ((w.alloc (.cells #[.int .i64 M, .int .i64 S] 24)).alloc (.cells #[.bool false, .int .u64 0, .int .u64 0, .int .u64 0, .int .u64 0, .int .i64 0] 60)).heap.size := by rw [heap_size_alloc, heap_size_alloc]; omega
  have hc : ((w.alloc (.cells #[.int .i64 M, .int .i64 S] 24)).alloc (.cells #[.bool false, .int .u64 0, .int .u64 0, .int .u64 0, .int .u64 0, .int .i64 0] 60)).cell? ⟨w.heap.size, 0, none⟩ = some (.int .i64 M) ∧ ((w.alloc (.cells #[.int .i64 M, .int .i64 S] 24)).alloc (.cells #[.bool false, .int .u64 0, .int .u64 0, .int .u64 0, .int .u64 0, .int .i64 0] 60)).cell? ⟨w.heap.size, 1, none⟩ = some (.int .i64 S) ∧ ((w.alloc (.cells #[.int .i64 M, .int .i64 S] 24)).alloc (.cells #[.bool false, .int .u64 0, .int .u64 0, .int .u64 0, .int .u64 0, .int .i64 0] 60)).cell? ⟨w.heap.size + 1, 0, none⟩ = some (.bool false) ∧ ((w.alloc (.cells #[.int .i64 M, .int .i64 S] 24)).alloc (.cells #[.bool false, .int .u64 0, .int .u64 0, .int .u64 0, .int .u64 0, .int .i64 0] 60)).frozen? ⟨w.heap.size + 1, 0, none⟩ = false ∧ ((w.alloc (.cells #[.int .i64 M, .int .i64 S] 24)).alloc (.cells #[.bool false, .int .u64 0, .int .u64 0, .int .u64 0, .int .u64 0, .int .i64 0] 60)).cell? ⟨w.heap.size + 1, 1, none⟩ = some (.int .u64 0) ∧ ((w.alloc (.cells #[.int .i64 M, .int .i64 S] 24)).alloc (.cells #[.bool false, .int .u64 0, .int .u64 0, .int .u64 0, .int .u64 0, .int .i64 0] 60)).frozen? ⟨w.heap.size + 1, 1, none⟩ = false ∧ ((w.alloc (.cells #[.int .i64 M, .int .i64 S] 24)).alloc (.cells #[.bool false, .int .u64 0, .int .u64 0, .int .u64 0, .int .u64 0, .int .i64 0] 60)).cell? ⟨w.heap.size + 1, 2, none⟩ = some (.int .u64 0) ∧ ((w.alloc (.cells #[.int .i64 M, .int .i64 S] 24)).alloc (.cells #[.bool false, .int .u64 0, .int .u64 0, .int .u64 0, .int .u64 0, .int .i64 0] 60)).frozen? ⟨w.heap.size + 1, 2, none⟩ = false ∧ ((w.alloc (.cells #[.int .i64 M, .int .i64 S] 24)).alloc (.cells #[.bool false, .int .u64 0, .int .u64 0, .int .u64 0, .int .u64 0, .int .i64 0] 60)).cell? ⟨w.heap.size + 1, 3, none⟩ = some (.int .u64 0) ∧ ((w.alloc (.cells #[.int .i64 M, .int .i64 S] 24)).alloc (.cells #[.bool false, .int .u64 0, .int .u64 0, .int .u64 0, .int .u64 0, .int .i64 0] 60)).frozen? ⟨w.heap.size + 1, 3, none⟩ = false ∧ ((w.alloc (.cells #[.int .i64 M, .int .i64 S] 24)).alloc (.cells #[.bool false, .int .u64 0, .int .u64 0, .int .u64 0, .int .u64 0, .int .i64 0] 60)).cell? ⟨w.heap.size + 1, 4, none⟩ = some (.int .u64 0) ∧ ((w.alloc (.cells #[.int .i64 M, .int .i64 S] 24)).alloc (.cells #[.bool false, .int .u64 0, .int .u64 0, .int .u64 0, .int .u64 0, .int .i64 0] 60)).frozen? ⟨w.heap.size + 1, 4, none⟩ = false ∧ ((w.alloc (.cells #[.int .i64 M, .int .i64 S] 24)).alloc (.cells #[.bool false, .int .u64 0, .int .u64 0, .int .u64 0, .int .u64 0, .int .i64 0] 60)).cell? ⟨w.heap.size + 1, 5, none⟩ = some (.int .i64 0) ∧ ((w.alloc (.cells #[.int .i64 M, .int .i64 S] 24)).alloc (.cells #[.bool false, .int .u64 0, .int .u64 0, .int .u64 0, .int .u64 0, .int .i64 0] 60)).frozen? ⟨w.heap.size + 1, 5, none⟩ = false := by simp [go_sem]
  generalize (w.alloc (.cells #[.int .i64 M, .int .i64 S] 24)).alloc (.cells #[.bool false, .int .u64 0, .int .u64 0, .int .u64 0, .int .u64 0, .int .i64 0] 60) = W at *
  go_region_held3 (fun w' => w'.cell? ⟨w.heap.size, 0, none⟩ = some (.int .i64 M) ∧ w'.cell? ⟨w.heap.size, 1, none⟩ = some (.int .i64 S)) (first | go_keep | exact ⟨(numberOf_held x6 hz hc).1, (numberOf_held x6 hz hc).2.1⟩ | exact ⟨(numberOf_held x5 hz hc).1, (numberOf_held x5 hz hc).2.1⟩) (first | (go_at_call 51; refine (C1 _).mono ?_; rintro e w4 ⟨rfl, rfl⟩) | (go_at_call 50; refine (C2 _).mono ?_; rintro e w5 ⟨rfl, x5⟩) | (go_at_call 52; refine (C3' _).mono ?_; rintro e w6 ⟨rfl, y6⟩; have x6 := x5.trans y6; obtain ⟨q0, q1, g0, f0, g1, f1, g2, f2, g3, f3, g4, f4, g5, f5⟩ := numberOf_held x6 hz hc))
  go_wp2_with fail
  refine bodyPost_ret (v := numV (decide (M < 0)) N s) ?_ rfl ⟨rfl, ?_⟩
  · simp [results, Try.results36, go_sem, numV, wideV, g0, g1, g2, g3, g4, g5]
  · have hb : w.heap.size ≤ w.heap.size + 1 := Nat.le_succ _
    exact ext_setCell (ext_setCell (ext_setCell (ext_setCell (ext_setCell (ext_setCell (hx.drew.trans x6) hb _) hb _) hb _) hb _) hb _) hb _
end Go.Proofs.Ytbkhdjbhijmghaa
