/- The walks of sum.numberOf, number.compare, plus. -/
import Derived.Test.YtiancppdcfahaaaDoorNumA
import Derived.Deep.RegionHeld3
import Derived.IntWalk
namespace Go.Proofs.YtiancppdcfahaaaDoor
open Go.RowKit

/-- A number with a sign, divided by a power of ten, as a value. -/
def numV (neg : Bool) (N : Nat) (s : Int) : Value := .agg #[.bool neg, .int .u64 (wd N 0 : Int), .int .u64 (wd N 1 : Int), .int .u64 (wd N 2 : Int), .int .u64 (wd N 3 : Int), .int .i64 s]
/-- It in memory. -/
def numCells (neg : Bool) (N : Nat) (s : Int) : Array Value := #[.bool neg, .int .u64 (wd N 0 : Int), .int .u64 (wd N 1 : Int), .int .u64 (wd N 2 : Int), .int .u64 (wd N 3 : Int), .int .i64 s]

theorem numberOf_held {w w' : World} {b : Nat} {M S : Int} (x : Ext w w') (hz : b + 2 ≤ w.heap.size) (h : w.cell? ⟨b, 0, none⟩ = some (.int .i64 M) ∧ w.cell? ⟨b, 1, none⟩ = some (.int .i64 S) ∧ w.cell? ⟨b + 1, 0, none⟩ = some (.bool false) ∧ w.frozen? ⟨b + 1, 0, none⟩ = false ∧ w.cell? ⟨b + 1, 1, none⟩ = some (.int .u64 0) ∧ w.frozen? ⟨b + 1, 1, none⟩ = false ∧ w.cell? ⟨b + 1, 2, none⟩ = some (.int .u64 0) ∧ w.frozen? ⟨b + 1, 2, none⟩ = false ∧ w.cell? ⟨b + 1, 3, none⟩ = some (.int .u64 0) ∧ w.frozen? ⟨b + 1, 3, none⟩ = false ∧ w.cell? ⟨b + 1, 4, none⟩ = some (.int .u64 0) ∧ w.frozen? ⟨b + 1, 4, none⟩ = false ∧ w.cell? ⟨b + 1, 5, none⟩ = some (.int .i64 0) ∧ w.frozen? ⟨b + 1, 5, none⟩ = false) :
    w'.cell? ⟨b, 0, none⟩ = some (.int .i64 M) ∧ w'.cell? ⟨b, 1, none⟩ = some (.int .i64 S) ∧ w'.cell? ⟨b + 1, 0, none⟩ = some (.bool false) ∧ w'.frozen? ⟨b + 1, 0, none⟩ = false ∧ w'.cell? ⟨b + 1, 1, none⟩ = some (.int .u64 0) ∧ w'.frozen? ⟨b + 1, 1, none⟩ = false ∧ w'.cell? ⟨b + 1, 2, none⟩ = some (.int .u64 0) ∧ w'.frozen? ⟨b + 1, 2, none⟩ = false ∧ w'.cell? ⟨b + 1, 3, none⟩ = some (.int .u64 0) ∧ w'.frozen? ⟨b + 1, 3, none⟩ = false ∧ w'.cell? ⟨b + 1, 4, none⟩ = some (.int .u64 0) ∧ w'.frozen? ⟨b + 1, 4, none⟩ = false ∧ w'.cell? ⟨b + 1, 5, none⟩ = some (.int .i64 0) ∧ w'.frozen? ⟨b + 1, 5, none⟩ = false := by
  have h0 : b < w.heap.size := by omega
  have h1 : b + 1 < w.heap.size := by omega
  obtain ⟨g0, g1, g2, g3, g4, g5, g6, g7, g8, g9, g10, g11, g12, g13⟩ := h
  exact ⟨(x.cell (p := ⟨b, 0, none⟩) h0).trans g0, (x.cell (p := ⟨b, 1, none⟩) h0).trans g1, (x.cell (p := ⟨b + 1, 0, none⟩) h1).trans g2, (x.frozen (p := ⟨b + 1, 0, none⟩) h1).trans g3, (x.cell (p := ⟨b + 1, 1, none⟩) h1).trans g4, (x.frozen (p := ⟨b + 1, 1, none⟩) h1).trans g5, (x.cell (p := ⟨b + 1, 2, none⟩) h1).trans g6, (x.frozen (p := ⟨b + 1, 2, none⟩) h1).trans g7, (x.cell (p := ⟨b + 1, 3, none⟩) h1).trans g8, (x.frozen (p := ⟨b + 1, 3, none⟩) h1).trans g9, (x.cell (p := ⟨b + 1, 4, none⟩) h1).trans g10, (x.frozen (p := ⟨b + 1, 4, none⟩) h1).trans g11, (x.cell (p := ⟨b + 1, 5, none⟩) h1).trans g12, (x.frozen (p := ⟨b + 1, 5, none⟩) h1).trans g13⟩

end Go.Proofs.YtiancppdcfahaaaDoor
