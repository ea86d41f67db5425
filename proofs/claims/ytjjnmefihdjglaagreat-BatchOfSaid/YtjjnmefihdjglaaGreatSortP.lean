import Derived.Test.YtjjnmefihdjglaaGreatFamC
import Derived.Test.YtjjnmefihdjglaaGreatSortL
namespace Go.Proofs.YtjjnmefihdjglaaGreat
section
variable {α : Type} {f : α → α → Int}
def Ris (f : α → α → Int) (L : List α) : Prop := L.Pairwise (fun x y => f x y < 0)
theorem Ris.unique (h : Cmp f) {A B : List α} (ha : Ris f A) (hb : Ris f B) (p : A.Perm B) : A = B := by
 refine List.Perm.eq_of_pairwise (le := fun x y => f x y < 0) (fun x y _ _ h1 h2 => ?_) ha hb p
 have := h.anti x y
 omega
theorem Ris.of_sorted (h : Cmp f) {A B : List α} (ha : A.Pairwise (fun x y => ¬ f y x < 0)) (hb : Ris f B) (p : A.Perm B) : Ris f A := by
 have h1 : B.Pairwise (fun x y => f x y ≠ 0) := hb.imp (fun {x y} h => by omega)
 have h2 : A.Pairwise (fun x y => f x y ≠ 0) := (p.pairwise_iff (fun {x y} hxy => by have := h.anti x y; omega)).2 h1
 refine (ha.and h2).imp (fun {x y} hxy => ?_)
 have := h.anti x y
 omega
theorem ris_cons2 (h : Cmp f) (x y : α) (L : List α) : Ris f (x :: y :: L) ↔ f x y < 0 ∧ Ris f (y :: L) := by
 unfold Ris
 rw [List.pairwise_cons]
 constructor
 ·rintro ⟨h1, h2⟩
  exact ⟨h1 y (by simp), h2⟩
 ·rintro ⟨h1, h2⟩
  refine ⟨fun z hz => ?_, h2⟩
  rcases List.mem_cons.1 hz with rfl | hz
  ·exact h1
  ·have h3 := (List.pairwise_cons.1 h2).1 z hz
   exact h.lt_trans (by omega) (by omega) (.inl h1)
end
theorem risesK_iff : ∀ (L : List PtK), risesK L = true ↔ Ris cmpK L
 | [] => by simp [risesK, Ris]
 | [x] => by simp [risesK, Ris]
 | x :: y :: L => by
   rw [ris_cons2 cmpK_cmp, ← risesK_iff (y :: L), risesK]
   simp
abbrev PtY := PtK × Int × Int
def PtD.y (p : PtD) : PtY := (p.k, p.m, p.s)
def cmpY (x y : PtY) : Int := cmpK x.1 y.1
theorem cmpY_cmp : Cmp cmpY := cmpK_cmp.pull (fun x : PtY => x.1)
theorem ris_map {α β : Type} (f : β → β → Int) (g : α → β) (L : List α) : Ris f (L.map g) ↔ Ris (fun x y => f (g x) (g y)) L := by
 unfold Ris; rw [List.pairwise_map]
theorem risesK_y (L : List PtD) : risesK (L.map PtD.k) = true ↔ Ris cmpY (L.map PtD.y) := by
 rw [risesK_iff, ris_map, ris_map]; exact Iff.rfl
theorem lt_of_cmp {α : Type} {f : α → α → Int} (h : Cmp f) : Lt (fun x y => decide (f x y < 0)) where
 asymm x y e := by
  have := h.anti x y
  simp at e ⊢; omega
 ntrans x y z h1 h2 := by
  have a1 := h.anti x y
  have a2 := h.anti y z
  have a3 := h.anti x z
  have := h.trans x y z
  simp at h1 h2 ⊢; omega
theorem sd_pairwise {α : Type} {f : α → α → Int} (d : Nat → α) (n : Nat) (h : Sd (fun x y => decide (f x y < 0)) d 0 n) : ((List.range n).map d).Pairwise (fun x y => ¬ f y x < 0) := by
 rw [List.pairwise_map]
 refine List.Pairwise.imp_of_mem ?_ (List.pairwise_lt_range (n := n))
 intro x y hx hy hxy
 have := h x y (Nat.zero_le _) hxy (List.mem_range.1 hy)
 simpa using this
end Go.Proofs.YtjjnmefihdjglaaGreat
