/- Rows of digits, of whole numbers in memory, that a call writes into. -/
import Derived.Test.YthfihlapgoglaaaRefLawA
import Derived.Laws.MakeOwn
namespace Go.Proofs.Ythfihlapgoglaaa
open Go.RowKit

/-- A row of digits in memory, the call's own. -/
def RowD (b : Nat) (L : List Nat) (w : World) : Prop := w.heap[b]? = some (.cells (digC L).toArray 5 (0, 0))
theorem RowD.lt {b : Nat} {L : List Nat} {w : World} (h : RowD b L w) : b < w.heap.size := (Array.getElem?_eq_some_iff.1 h).1
theorem RowD.ext {b : Nat} {L : List Nat} {w w' : World} (h : RowD b L w) (x : Ext w w') : RowD b L w' := (x.heap h.lt).trans h
theorem RowD.cell {b : Nat} {L : List Nat} {w : World} (h : RowD b L w) (i : Nat) (hi : i < L.length) : w.cell? ⟨b, i, none⟩ = some (.int .u8 (L[i] : Int)) := by
  rw [Lib.cell_of_heap h]
  simp [digC, List.getElem?_eq_getElem hi]
theorem RowD.free {b : Nat} {L : List Nat} {w : World} (h : RowD b L w) (i : Nat) : w.frozen? ⟨b, i, none⟩ = false := Lib.frozen_of_heap h i
theorem RowD.put {b : Nat} {L : List Nat} {w : World} (h : RowD b L w) (i d : Nat) : RowD b (L.set i d) (w.setCell ⟨b, i, none⟩ (.int .u8 (d : Int))) := by
  have hl : digC (L.set i d) = (digC L).set i (.int .u8 (d : Int)) := by
    unfold digC
    rw [← List.map_set]
  unfold RowD at *
  rw [hl]
  simp [World.setCell, Array.getElem?_modify, h]
theorem RowD.dig {b : Nat} {L : List Nat} {w : World} (h : RowD b L w) (c : Nat) (hc : L.length ≤ c) : DigV (.slice (some ⟨b, 0, none⟩) L.length c) L w :=
  .inr ⟨b, 0, c, rfl, hc, h.lt, fun i hi => by rw [Nat.zero_add]; exact h.cell i hi⟩
/-- Another place of the heap turns; the row stands. -/
theorem RowD.other {b : Nat} {L : List Nat} {w : World} (h : RowD b L w) (p : Addr) (v : Value) (hp : p.block ≠ b) : RowD b L (w.setCell p v) := by
  unfold RowD at *
  rw [← h]
  simp [World.setCell, Array.getElem?_modify, hp]

/-- Digits laid from the back: i of n places are done. -/
theorem set_back (n i d : Nat) (done : List Nat) (h : i < n) (hd : done.length = i) : (List.replicate (n - i) 0 ++ done).set (n - (i + 1)) d = List.replicate (n - (i + 1)) 0 ++ (d :: done) := by
  rw [show n - i = (n - (i + 1)) + 1 from by omega, List.replicate_succ', List.append_assoc, List.set_append_right _ _ (by simp)]
  simp

theorem mk_row (n : Nat) (hn : n ≤ 1000000) (w : World) : (Instr.makeSlice 53 (.int .i64 (n : Int)) (.int .i64 (n : Int))).run Try.prog w = .ok (.slice (some ⟨w.heap.size, 0, none⟩) n n) (w.alloc (.cells (digC (List.replicate n 0)).toArray 5)) := by
  obtain ⟨i, hi, hi3⟩ := Option.map_eq_some_iff.1 infoByte
  obtain ⟨hz, hsz, hby⟩ : i.zero = some (.int .u8 0) ∧ i.size = 1 ∧ i.bytes = 1 := by
    injection hi3 with h1 h2; injection h2 with h2 h3; exact ⟨h1, h2, h3⟩
  have h := run_make (P := Try.prog) w 53 5 i (.int .u8 0) Try.underlying53 hi hz .i64 .i64 n n (by omega) (by omega) (by rw [hby]; omega) (by omega)
  rw [h]
  have e : madeCells (Value.int IntKind.u8 0).cells ((n : Int).toNat * i.size) = (digC (List.replicate n 0)).toArray := by
    rw [hsz]
    apply Array.ext
    · simp [digC, size_madeCells]
    · intro j h1 h2
      simp [digC, madeCells, Value.cells, Nat.mod_one]
  rw [e]; rfl
end Go.Proofs.Ythfihlapgoglaaa
