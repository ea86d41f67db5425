/- The law FamilySorts: plain: rows turned round, with one twice. -/
import Derived.Test.YtjjnmefihdjglaaFamK
namespace Go.Proofs.Ytjjnmefihdjglaa
open Go.RowKit

/-- A part of a row of points. -/
theorem PtsA.from {b o : Nat} {l : List PtD} {w : World} (h : PtsA (some ⟨b, o, none⟩) l w) (k : Nat) : PtsA (some ⟨b, o + k * 9, none⟩) (l.drop k) w := by
  refine ⟨fun h0 => ?_, fun p hp => h.2 p (List.mem_of_mem_drop hp)⟩
  rw [List.length_drop] at h0
  obtain ⟨b', o', e, hb, hP⟩ := h.1 (by omega)
  injection e with e
  injection e with e1 e2
  subst e1 e2
  refine ⟨b, o + k * 9, rfl, hb, fun i hi => ?_⟩
  rw [List.length_drop] at hi
  have := hP (k + i) (by omega)
  have ee : (l.drop k)[i]'(by rw [List.length_drop]; exact hi) = l[k + i] := by simp
  rw [ee, show o + k * 9 + i * 9 = o + (k + i) * 9 from by rw [Nat.add_mul]; omega]
  exact this
theorem PtsA.upto {a : Option Addr} {l : List PtD} {w : World} (h : PtsA a l w) (k : Nat) : PtsA a (l.take k) w := by
  refine ⟨fun h0 => ?_, fun p hp => h.2 p (List.mem_of_mem_take hp)⟩
  rw [List.length_take] at h0
  obtain ⟨b, o, rfl, hb, hP⟩ := h.1 (by omega)
  refine ⟨b, o, rfl, hb, fun i hi => ?_⟩
  rw [List.length_take] at hi
  have := hP i (by omega)
  have ee : (l.take k)[i]'(by rw [List.length_take]; exact hi) = l[i] := by simp
  rw [ee]
  exact this
/-- With one point twice no order rises. -/
theorem not_ris_twice (l : List PtY) (x : PtY) (hx : x ∈ l) (M : List PtY) (hM : M.Perm (l ++ [x])) : ¬ Ris cmpY M := by
  intro h
  have h1 : M.Pairwise (fun a b => cmpY a b ≠ 0) := h.imp (fun {a b} hab => by omega)
  have h2 : (l ++ [x]).Pairwise (fun a b => cmpY a b ≠ 0) := (hM.pairwise_iff (fun {a b} hab => by have := cmpY_cmp.anti a b; omega)).1 h1
  rw [List.pairwise_append] at h2
  exact h2.2.2 x hx x (by simp) (cmpY_cmp.refl x)
/-- Turned round, the row is as before but for the order. -/
theorem turned {α : Type} (l : List α) (k : Nat) : (l.drop k ++ l.take k).Perm l := by
  have := List.take_append_drop k l
  conv => rhs; rw [← this]
  exact List.perm_append_comm
/-- In a row that rises each is ahead of the next. -/
theorem Ris.next {L : List PtY} (h : Ris cmpY L) (i : Nat) (hi : i + 1 < L.length) : cmpY L[i] L[i + 1] < 0 :=
  List.pairwise_iff_getElem.1 h i (i + 1) (by omega) hi (by omega)
end Go.Proofs.Ytjjnmefihdjglaa
