/- Rows of points: as append asks for them; of one point; of the call's own. A cell of a row of structs, set. -/
import Derived.Test.YtjjnmefihdjglaaOwnB
namespace Go.Proofs.Ytjjnmefihdjglaa
open Go.RowKit

theorem PtsA.src {ad : Addr} {l : List PtD} {w : World} (h : PtsA (some ad) l w) : ∀ i, i < l.length → ∀ j, j < 9 → w.cell? (ad.add (i * 9 + j)) = (PtD.cs (l[i]?.getD PtD.zero))[j]? := by
  intro i hi j hj
  obtain ⟨b, o, e, hb, hL⟩ := h.1 (by omega)
  injection e with e
  subst e
  have q := hL i hi
  rw [Addr.add_lit, show l[i]?.getD PtD.zero = l[i] from by rw [List.getElem?_eq_getElem hi]; rfl]
  obtain ⟨q0, q1, q2, q3, q4, q5, q6, q7, q8⟩ := q
  match j, hj with
  | 0, _ => exact q0
  | 1, _ => exact q1
  | 2, _ => exact q2
  | 3, _ => exact q3
  | 4, _ => exact q4
  | 5, _ => exact q5
  | 6, _ => exact q6
  | 7, _ => exact q7
  | 8, _ => exact q8
theorem PtsA.one {g : Nat} {p : PtD} {w : World} (h : w.heap[g]? = some (.cells #[.slice p.a p.l.length p.c, .int .i64 p.r, .bool p.f, .int .i64 p.M, .int .i64 p.S, .int .i64 p.m, .int .i64 p.s, .bool p.t, .int .i64 p.T] 35 (0, 0))) (ok : p.Ok w) : PtsA (some ⟨g, 0, none⟩) [p] w := by
  refine ⟨fun _ => ⟨g, 0, rfl, (Array.getElem?_eq_some_iff.1 h).1, fun i hi => ?_⟩, fun q hq => by rw [List.mem_singleton] at hq; subst hq; exact ok⟩
  simp only [Lib.cell_of_heap h]
  match i, hi with
  | 0, _ => exact ⟨rfl, rfl, rfl, rfl, rfl, rfl, rfl, rfl, rfl⟩
theorem OwnR.ptsA {base n : Nat} {v : Value} {L : List PtD} {W : World} (h : OwnR 9 35 PtD.cs base v n (fun i => L[i]?.getD PtD.zero) W) (hn : n = L.length) (hp : ∀ p ∈ L, p.Ok W) : ∃ a c, v = .slice a L.length c ∧ PtsA a L W := by
  subst hn
  obtain ⟨a, c, rfl⟩ := h.form
  refine ⟨a, c, rfl, fun h0 => ?_, hp⟩
  obtain ⟨g, cap, e, hg, hr⟩ := h.row h0
  injection e with e _ _
  subst e
  refine ⟨g, 0, rfl, hr.lt, fun i hi => ?_⟩
  have e : L[i]?.getD PtD.zero = L[i] := by simp [hi]
  have C := fun j v hj hv => hr.cell i j v hi hj (by rw [e]; exact hv)
  rw [Nat.zero_add]
  exact ⟨C 0 _ (by decide) rfl, C 1 _ (by decide) rfl, C 2 _ (by decide) rfl, C 3 _ (by decide) rfl, C 4 _ (by decide) rfl, C 5 _ (by decide) rfl, C 6 _ (by decide) rfl, C 7 _ (by decide) rfl, C 8 _ (by decide) rfl⟩

section
variable {E : Type} {K : Nat} {T : TypeId} {cs : E → List Value}
/-- What stands of a row, if its block stands. -/
theorem RowE.keep {g n : Nat} {d : Nat → E} {w w' : World} (h : RowE K T cs g n d w) (e : w'.heap[g]? = w.heap[g]?) : RowE K T cs g n d w' := by
  obtain ⟨c, h1, h2⟩ := h
  exact ⟨c, e.trans h1, h2⟩
/-- One cell of one struct of a row, set. -/
theorem RowE.set1 (hK : ∀ x, (cs x).length = K) {g n : Nat} {d d' : Nat → E} {w : World} (h : RowE K T cs g n d w) (j x : Nat) (v : Value) (hj : j < n) (hx : x < K) (e1 : cs (d' j) = (cs (d j)).set x v) (e2 : ∀ i, i ≠ j → d' i = d i) :
    RowE K T cs g n d' (w.setCell ⟨g, j * K + x, none⟩ v) := by
  obtain ⟨c, h1, h2, h3⟩ := h
  have e := heap_setCells g [v] (j * K + x) w _ _ _ h1
  simp only [World.setCells] at e
  refine ⟨_, e, by rw [setL_size]; exact h2, fun i hi y hy => ?_⟩
  have hjx : j * K + x < c.size := by have := row_le (K := K) hj; omega
  show (c.setIfInBounds (j * K + x) v)[i * K + y]? = _
  rw [Array.getElem?_setIfInBounds]
  by_cases q : i = j
  · subst q
    rw [e1, List.getElem?_set]
    by_cases q2 : x = y
    · subst q2
      rw [if_pos rfl, if_pos rfl, if_pos hjx, if_pos (by rw [hK]; exact hx)]
    · rw [if_neg (by omega), if_neg q2]
      exact h3 i hi y hy
  · have hne : ¬ j * K + x = i * K + y := by
      intro hh
      rcases Nat.lt_or_gt_of_ne q with h | h
      · have := Nat.mul_le_mul_right K (show i + 1 ≤ j from h)
        rw [Nat.add_mul] at this
        omega
      · have := Nat.mul_le_mul_right K (show j + 1 ≤ i from h)
        rw [Nat.add_mul] at this
        omega
    rw [if_neg hne, e2 i q]
    exact h3 i hi y hy
theorem OwnR.keep {base n : Nat} {v : Value} {d : Nat → E} {w w' : World} (h : OwnR K T cs base v n d w) (e : ∀ g, v.ownBlock = some g → w'.heap[g]? = w.heap[g]?) : OwnR K T cs base v n d w' := by
  rcases h with h | ⟨g, cap, e1, h1, h2, c, h3, h4⟩
  · exact .inl h
  · exact .inr ⟨g, cap, e1, h1, h2, c, (e g (by rw [e1]; rfl)).trans h3, h4⟩
end
end Go.Proofs.Ytjjnmefihdjglaa
