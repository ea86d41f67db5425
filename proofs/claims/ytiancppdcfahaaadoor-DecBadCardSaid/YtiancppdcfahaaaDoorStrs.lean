/- A slice of strings that came in, read as a list. -/
import Derived.Test.YtiancppdcfahaaaDoorBase
import Derived.ProofKit
import Derived.SliceStrings
namespace Go.Proofs.YtiancppdcfahaaaDoor
open Go.ChangeShapes Go.WideShapes Go.ChangeAt Go.RowKit

/-- A slice of strings that reads as a list, its block there. -/
def Strs (w : World) (A : Option Addr) (ss : List ByteArray) : Prop :=
  ∀ i, i < ss.length → ∃ a, A = some a ∧ a.block < w.heap.size ∧ w.cell? (a.add i) = some (.string (ss.getD i ByteArray.empty))
theorem block_add (a : Addr) (n : Nat) : (a.add n).block = a.block := by unfold Addr.add; split <;> rfl
theorem Strs.ext {w w' : World} {A : Option Addr} {ss : List ByteArray} (h : Strs w A ss) (hk : Ext w w') : Strs w' A ss := by
  intro i hi
  obtain ⟨a, hA, hlt, hc⟩ := h i hi
  refine ⟨a, hA, Nat.lt_of_lt_of_le hlt hk.size, ?_⟩
  rw [hk.cell (by rw [block_add]; exact hlt)]
  exact hc

theorem underStrs : Tryd.prog.underlying 38 = some (.slice 9) := by kernel_rfl
theorem underStr : Tryd.prog.underlying 9 = some .string := by kernel_rfl
theorem cellsStr : Tryd.prog.cellsOf 9 = 1 := by kernel_rfl

theorem openStrs {H : Type} {enc : TypeId × Value → H} {W : World} {base : Nat} {v : Value} {d : DataW H} {p : List MemPlace} (hv : Value.okWide Tryd.prog W .any base 38 v)
    (h : DataW.Trod enc Tryd.prog W 0 (fun _ => true) true 38 v d p) :
    ∃ A c ss, v = .slice A (List.length ss) c ∧ Strs W A ss ∧ ss.length ≤ 9223372036854775807 ∧ ∀ s ∈ ss, s.size ≤ 9223372036854775807 := by
  obtain ⟨a0, len, cap, rfl⟩ := okWide_slice underStrs hv
  obtain ⟨fuel, hf⟩ := h
  rcases open_strings underStrs underStr cellsStr hf with ⟨hcs, _⟩ | ⟨a, len', cap', ss, hcs, _, hl, hm, hz, _, hcell, hws⟩
  · simp only [Value.cells, List.cons.injEq, and_true] at hcs
    injection hcs with h1 h2 h3
    subst h1; subst h2
    exact ⟨none, cap, [], rfl, fun i hi => by simp at hi, by simp, by simp⟩
  · simp only [Value.cells, List.cons.injEq, and_true] at hcs
    injection hcs with h1 h2 h3
    subst h1; subst h2; subst h3
    unfold maxLen at hm hws
    simp only [if_true] at hz
    have hlen : (ss.take len).length = len := by rw [List.length_take]; omega
    refine ⟨some a, cap, ss.take len, by rw [hlen], fun i hi => ?_, by omega, fun s hs => hws s (List.mem_of_mem_take hs)⟩
    rw [hlen] at hi
    have hc := hcell i (by omega)
    have hb := World.block_lt_of_cell? W _ hc
    rw [block_add] at hb
    refine ⟨a, rfl, hb, ?_⟩
    rw [hc]
    simp [List.getD_eq_getElem?_getD, List.getElem?_take, hi]
end Go.Proofs.YtiancppdcfahaaaDoor
