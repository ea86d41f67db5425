/- A slice of decimals that comes in, opened. -/
import Derived.Test.YthfihlapgoglaaaDecRow
import Derived.Test.YthfihlapgoglaaaNumH
import Derived.Deep.SlicePairs
namespace Go.Proofs.Ythfihlapgoglaaa
open Go.ChangeShapes Go.WideShapes Go.ChangeAt Go.RowKit Go.Deep

theorem spot_of_cell {w : World} {a : Addr} {v : Value} (h : w.cell? a = some v) : a.spot = none := by
  unfold World.cell? at h
  split at h
  · split at h
    · cases h
    · rename_i hs
      simpa using hs
  · cases h

theorem openDecs {H : Type} {enc : TypeId × Value → H} {W : World} {r : Reach} {b0 : Nat} {v : Value} {d : DataW H} {p : List MemPlace}
    (hv : Value.okWide Try.prog W r b0 22 v) (h : DataW.Trod enc Try.prog W 0 (fun _ => true) true 22 v d p) :
    ∃ (A : Option Addr) (c : Nat) (l : List (Int × Int)), v = .slice A l.length c ∧ (l.length : Int) ≤ 9223372036854775807 ∧ (0 < l.length → ∃ b o, A = some ⟨b, o, none⟩ ∧ b < W.heap.size ∧ DecsAt b o l W) ∧ (∀ x ∈ l, I64 x.1 ∧ I64 x.2) := by
  obtain ⟨a0, len, cap, rfl⟩ := okWide_slice Try.underlying22 hv
  obtain ⟨fuel, hf⟩ := h
  rcases open_slice_pairs Try.underlying22 Try.underlying25 (by kernel_rfl) (by kernel_rfl) (by kernel_rfl) (by kernel_rfl) (by kernel_rfl) hf with ⟨hcs, _⟩ | ⟨a, len', cap', m, n, V0, V1, D0, D1, P0, P1, hcs, _, hl, hm, hmm, _, hi⟩
  · simp only [Value.cells, List.cons.injEq, and_true] at hcs
    injection hcs with h1 h2 h3
    subst h1; subst h2
    exact ⟨none, cap, [], rfl, by simp, fun h => by simp at h, fun x hx => by cases hx⟩
  · simp only [Value.cells, List.cons.injEq, and_true] at hcs
    injection hcs with h1 h2 h3
    subst h1; subst h2; subst h3
    unfold maxLen at hm
    simp only [if_true] at hmm
    have each : ∀ i, i < len → ∃ d : Int × Int, W.cell? (a.add (i * 2)) = some (.int .i64 d.1) ∧ W.cell? (a.add (i * 2 + 1)) = some (.int .i64 d.2) ∧ I64 d.1 ∧ I64 d.2 := by
      intro i hlt
      obtain ⟨c0, c1, t0, t1⟩ := hi i (by omega)
      obtain ⟨M, e0, _, w0⟩ := DataW.trod_int Try.underlying2 t0
      obtain ⟨S, e1, _, w1⟩ := DataW.trod_int Try.underlying3 t1
      injection e0 with e0 _
      injection e1 with e1 _
      exact ⟨(M, S), by rw [c0, e0], by rw [c1, e1], bounds_i64 w0, bounds_i64 w1⟩
    have pick : ∃ f : Nat → Int × Int, ∀ i, i < len → W.cell? (a.add (i * 2)) = some (.int .i64 (f i).1) ∧ W.cell? (a.add (i * 2 + 1)) = some (.int .i64 (f i).2) ∧ I64 (f i).1 ∧ I64 (f i).2 := by
      refine ⟨fun i => if h : i < len then Classical.choose (each i h) else (0, 0), fun i hlt => ?_⟩
      simp only [hlt, dif_pos]
      exact Classical.choose_spec (each i hlt)
    obtain ⟨f, hf'⟩ := pick
    have hlen : ((List.range len).map f).length = len := by simp
    refine ⟨some a, cap, (List.range len).map f, by rw [hlen], by rw [hlen]; omega, fun h0 => ?_, fun x hx => ?_⟩
    · rw [hlen] at h0
      obtain ⟨g0, _⟩ := hf' 0 h0
      have hs : a.spot = none := spot_of_cell g0
      have hb := World.block_lt_of_cell? W _ g0
      rw [block_add] at hb
      obtain ⟨b, o, sp⟩ := a
      simp only at hs
      subst hs
      refine ⟨b, o, rfl, hb, fun i hlt => ?_⟩
      have hlt' : i < len := by simpa using hlt
      obtain ⟨q0, q1, _⟩ := hf' i hlt'
      rw [Addr.add_lit] at q0 q1
      have e : ((List.range len).map f)[i] = f i := by simp
      rw [e]
      exact ⟨q0, by rw [Nat.add_assoc]; exact q1⟩
    · obtain ⟨i, hi1, rfl⟩ := List.mem_map.1 hx
      obtain ⟨_, _, q2, q3⟩ := hf' i (List.mem_range.1 hi1)
      exact ⟨q2, q3⟩
end Go.Proofs.Ythfihlapgoglaaa
