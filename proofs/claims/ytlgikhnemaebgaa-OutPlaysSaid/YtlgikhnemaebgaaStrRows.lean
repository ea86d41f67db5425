/- A slice of slices of strings that came in, read as a list. -/
import Derived.Test.YtlgikhnemaebgaaStrs
import Derived.Deep.Slices
namespace Go.Proofs.Ytlgikhnemaebgaa
open Go.ChangeShapes Go.WideShapes Go.ChangeAt Go.RowKit Go.Deep

/-- A row: where it lies, its capacity, its strings. -/
structure SRow where
  A : Option Addr
  cap : Nat
  ss : List ByteArray
instance : Inhabited SRow := ⟨⟨none, 0, []⟩⟩
def SRow.val (r : SRow) : Value := .slice r.A r.ss.length r.cap
def SRow.ok (w : World) (r : SRow) : Prop := Strs w r.A r.ss ∧ r.ss.length ≤ 9223372036854775807 ∧ ∀ s ∈ r.ss, s.size ≤ 9223372036854775807
/-- A slice of such rows. -/
def StrRows (w : World) (A : Option Addr) (rs : List SRow) : Prop :=
  ∀ i, i < rs.length → ∃ a, A = some a ∧ a.block < w.heap.size ∧ w.cell? (a.add i) = some (rs.getD i default).val ∧ (rs.getD i default).ok w
theorem SRow.ok.ext {w w' : World} {r : SRow} (h : r.ok w) (hk : Ext w w') : r.ok w' := ⟨h.1.ext hk, h.2⟩
theorem StrRows.ext {w w' : World} {A : Option Addr} {rs : List SRow} (h : StrRows w A rs) (hk : Ext w w') : StrRows w' A rs := by
  intro i hi
  obtain ⟨a, hA, hlt, hc, ho⟩ := h i hi
  refine ⟨a, hA, Nat.lt_of_lt_of_le hlt hk.size, ?_, ho.ext hk⟩
  rw [hk.cell (by rw [block_add]; exact hlt)]
  exact hc

theorem underRows : Try.prog.underlying 22 = some (.slice 26) := by kernel_rfl
theorem cellsRow : Try.prog.cellsOf 26 = 1 := by kernel_rfl

theorem openRow {H : Type} {enc : TypeId × Value → H} {W : World} {fuel : Nat} {v : Value} {x : DataW H × List MemPlace}
    (hf : DataW.trod enc Try.prog W 0 (fun _ => true) true fuel 26 [v] = some x) : ∃ r : SRow, v = r.val ∧ r.ok W := by
  rcases open_strings underStrs underStr cellsStr hf with ⟨hcs, _⟩ | ⟨a, len', cap', ss, hcs, _, hl, hm, hz, _, hcell, hws⟩
  · simp only [List.cons.injEq, and_true] at hcs
    exact ⟨⟨none, 0, []⟩, hcs, fun i hi => by simp at hi, by simp, by simp⟩
  · simp only [List.cons.injEq, and_true] at hcs
    subst hcs
    unfold maxLen at hm hws
    simp only [if_true] at hz
    have hlen : (ss.take len').length = len' := by rw [List.length_take]; omega
    refine ⟨⟨some a, cap', ss.take len'⟩, by unfold SRow.val; rw [hlen], fun i hi => ?_, by simp only; omega, fun s hs => hws s (List.mem_of_mem_take hs)⟩
    simp only at hi ⊢
    rw [hlen] at hi
    have hc := hcell i (by omega)
    have hb := World.block_lt_of_cell? W _ hc
    rw [block_add] at hb
    refine ⟨a, rfl, hb, ?_⟩
    rw [hc]
    simp [List.getD_eq_getElem?_getD, hi]

theorem openRows {H : Type} {enc : TypeId × Value → H} {W : World} {base : Nat} {v : Value} {d : DataW H} {p : List MemPlace} (hv : Value.okWide Try.prog W .any base 22 v)
    (h : DataW.Trod enc Try.prog W 0 (fun _ => true) true 22 v d p) :
    ∃ A c rs, v = .slice A (List.length rs) c ∧ StrRows W A rs ∧ rs.length ≤ 9223372036854775807 := by
  obtain ⟨a0, len, cap, rfl⟩ := okWide_slice underRows hv
  obtain ⟨fuel, hf⟩ := h
  rcases open_slice1 underRows cellsRow hf with ⟨hcs, _⟩ | ⟨a, len', cap', m, n, V, D, Pl, hcs, _, hl, hm, hmm, _, hi⟩
  · simp only [Value.cells, List.cons.injEq, and_true] at hcs
    injection hcs with h1 h2 h3
    subst h1; subst h2
    exact ⟨none, cap, [], rfl, fun i hi => by simp at hi, by simp⟩
  · simp only [Value.cells, List.cons.injEq, and_true] at hcs
    injection hcs with h1 h2 h3
    subst h1; subst h2; subst h3
    unfold maxLen at hm
    simp only [if_true] at hmm
    have each : ∀ i, i < len → ∃ r : SRow, a.block < W.heap.size ∧ W.cell? (a.add i) = some r.val ∧ r.ok W := by
      intro i hlt
      obtain ⟨hc, ht⟩ := hi i (by omega)
      obtain ⟨r, hr1, hr⟩ := openRow ht
      have hb := World.block_lt_of_cell? W _ hc
      rw [block_add] at hb
      exact ⟨r, hb, by rw [hc, hr1], hr⟩
    have pick : ∃ f : Nat → SRow, ∀ i, i < len → a.block < W.heap.size ∧ W.cell? (a.add i) = some (f i).val ∧ (f i).ok W := by
      refine ⟨fun i => if h : i < len then Classical.choose (each i h) else default, fun i hlt => ?_⟩
      simp only [hlt, dif_pos]
      exact Classical.choose_spec (each i hlt)
    obtain ⟨f, hf'⟩ := pick
    refine ⟨some a, cap, (List.range len).map f, by simp, fun i hlt => ?_, by simp; omega⟩
    have hlt' : i < len := by simpa using hlt
    obtain ⟨h1, h2, h3⟩ := hf' i hlt'
    have e : ((List.range len).map f).getD i default = f i := by simp [List.getD_eq_getElem?_getD, hlt']
    rw [e]
    exact ⟨a, rfl, h1, h2, h3⟩
end Go.Proofs.Ytlgikhnemaebgaa
