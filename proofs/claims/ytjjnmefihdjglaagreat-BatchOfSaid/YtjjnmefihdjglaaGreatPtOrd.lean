import Derived.Test.YtjjnmefihdjglaaGreatPtE
import Derived.Test.YtjjnmefihdjglaaGreatGD
namespace Go.Proofs.YtjjnmefihdjglaaGreat
open Go.RowKit
structure Cmp {α : Type} (f : α → α → Int) : Prop where
 c3 : ∀ x y, C3 (f x y)
 anti : ∀ x y, f y x = -f x y
 trans : ∀ x y z, f x y ≤ 0 → f y z ≤ 0 → f x z ≤ 0
theorem Cmp.refl {α : Type} {f : α → α → Int} (h : Cmp f) (x : α) : f x x = 0 := by
 have := h.anti x x
 omega
theorem Cmp.same {α : Type} {f : α → α → Int} (h : Cmp f) {x y : α} (e : f x y = 0) (z : α) : f x z = f y z := by
 have e2 : f y x = 0 := by have := h.anti x y; omega
 have t1 := h.trans x y z (by omega)
 have t2 := h.trans y x z (by omega)
 have t3 := h.trans z x y
 have t4 := h.trans z y x
 have a1 := h.anti x z
 have a2 := h.anti y z
 have c1 := h.c3 x z
 have c2 := h.c3 y z
 unfold C3 at c1 c2
 rcases c1 with c | c | c <;> rcases c2 with d | d | d <;> omega
theorem Cmp.lt_trans {α : Type} {f : α → α → Int} (h : Cmp f) {x y z : α} (h1 : f x y ≤ 0) (h2 : f y z ≤ 0) (h3 : f x y < 0 ∨ f y z < 0) : f x z < 0 := by
 have t := h.trans x y z h1 h2
 rcases (show f x z < 0 ∨ f x z = 0 from by omega) with h4 | h4
 ·exact h4
 ·have s1 := h.same h4 y
  have a := h.anti y z
  omega
theorem Cmp.pull {α β : Type} {f : α → α → Int} (h : Cmp f) (g : β → α) : Cmp (fun x y => f (g x) (g y)) :=
 ⟨fun _ _ => h.c3 _ _, fun _ _ => h.anti _ _, fun _ _ _ => h.trans _ _ _⟩
def lex2 (a b : Int) : Int := if a ≠ 0 then a else b
theorem Cmp.lex {α : Type} {f g : α → α → Int} (h : Cmp f) (k : Cmp g) : Cmp (fun x y => lex2 (f x y) (g x y)) where
 c3 x y := by
  unfold lex2
  split
  ·exact h.c3 _ _
  ·exact k.c3 _ _
 anti x y := by
  have a := h.anti x y
  have b := k.anti x y
  unfold lex2
  by_cases h0 : f x y = 0
  ·rw [if_neg (by omega), if_neg (by omega)]; exact b
  ·rw [if_pos (by omega), if_pos h0]; exact a
 trans x y z h1 h2 := by
  unfold lex2 at *
  by_cases e1 : f x y = 0
  ·have s := h.same e1 z
   rw [if_neg (by omega)] at h1
   by_cases e2 : f y z = 0
   ·rw [if_neg (by omega)] at h2
    rw [if_neg (by omega)]
    exact k.trans x y z h1 h2
   ·rw [if_pos e2] at h2
    rw [if_pos (by omega)]; omega
  ·rw [if_pos e1] at h1
   by_cases e2 : f y z = 0
   ·rw [if_neg (by omega)] at h2
    have := h.lt_trans (x := x) (y := y) (z := z) h1 (by omega) (.inl (by omega))
    rw [if_pos (by omega)]; omega
   ·rw [if_pos e2] at h2
    have := h.lt_trans (x := x) (y := y) (z := z) h1 h2 (.inl (by omega))
    rw [if_pos (by omega)]; omega
theorem cmpBytes_cmp : Cmp Lib.compareBytes where
 c3 := cmpBytes_c3
 anti := by
  intro l
  induction l with
  | nil => intro m; cases m <;> rfl
  | cons a l ih =>
    intro m
    cases m with
    | nil => rfl
    | cons b m =>
      unfold Lib.compareBytes
      by_cases h : a < b
      ·rw [if_pos h, if_neg (UInt8.lt_asymm h), if_pos h]; rfl
      ·by_cases h2 : b < a
       ·rw [if_pos h2, if_neg h, if_pos h2]
       ·rw [if_neg h, if_neg h2, if_neg h2, if_neg h]; exact ih m
 trans := by
  intro l
  induction l with
  | nil => intro m k h1 h2; cases k <;> simp [Lib.compareBytes]
  | cons a l ih =>
    intro m k h1 h2
    cases m with
    | nil => simp [Lib.compareBytes] at h1
    | cons b m =>
      cases k with
      | nil => simp [Lib.compareBytes] at h2
      | cons c k =>
        unfold Lib.compareBytes at h1 h2 ⊢
        by_cases hab : a < b
        ·by_cases hbc : b < c
         ·rw [if_pos (UInt8.lt_trans hab hbc)]; omega
         ·rw [if_neg hbc] at h2
          by_cases hcb : c < b
          ·rw [if_pos hcb] at h2; omega
          ·have : b = c := UInt8.le_antisymm (UInt8.not_lt.1 hcb) (UInt8.not_lt.1 hbc)
           subst this
           rw [if_pos hab]; omega
        ·rw [if_neg hab] at h1
         by_cases hba : b < a
         ·rw [if_pos hba] at h1; omega
         ·rw [if_neg hba] at h1
          have : a = b := UInt8.le_antisymm (UInt8.not_lt.1 hba) (UInt8.not_lt.1 hab)
          subst this
          by_cases hac : a < c
          ·rw [if_pos hac]; omega
          ·rw [if_neg hac] at h2 ⊢
           by_cases hca : c < a
           ·rw [if_pos hca] at h2; omega
           ·rw [if_neg hca] at h2 ⊢
            exact ih m k h1 h2
theorem cmpS_cmp : Cmp cmpS := cmpBytes_cmp.pull (fun s : ByteArray => s.data.toList)
theorem cmpI_cmp : Cmp cmpI where
 c3 := cmpI_c3
 anti x y := by unfold cmpI; (repeat' split) <;> omega
 trans x y z := by unfold cmpI; (repeat' split) <;> omega
theorem cmpB_cmp : Cmp cmpB where
 c3 := cmpB_c3
 anti x y := by cases x <;> cases y <;> rfl
 trans x y z := by cases x <;> cases y <;> cases z <;> decide
theorem sg_cmp : Cmp (fun x y : Int => sg (x - y)) where
 c3 x y := by show C3 (sg (x - y)); unfold C3 sg; (repeat' split) <;> simp
 anti x y := by unfold sg; (repeat' split) <;> omega
 trans x y z := by unfold sg; (repeat' split) <;> omega
theorem orL_two (a b : Int) : orL [a, b] = lex2 a b := by
 show lex2 a (lex2 b 0) = lex2 a b
 unfold lex2
 split
 ·rfl
 ·split <;> omega
theorem orL_cons (a : Int) (l : List Int) : orL (a :: l) = lex2 a (orL l) := rfl
theorem cmpL_cmp : Cmp cmpL := by
 have h := (cmpS_cmp.pull (fun x : ByteArray × ByteArray => x.1)).lex (cmpS_cmp.pull (fun x : ByteArray × ByteArray => x.2))
 have e : cmpL = fun x y => lex2 (cmpS x.1 y.1) (cmpS x.2 y.2) := by funext x y; exact orL_two _ _
 rw [e]; exact h
theorem cmpLs_cmp : Cmp cmpLs where
 c3 := cmpLs_c3
 anti := by
  intro l
  induction l with
  | nil => intro m; cases m <;> rfl
  | cons a l ih =>
    intro m
    cases m with
    | nil => rfl
    | cons b m =>
      have an := cmpL_cmp.anti a b
      unfold cmpLs
      by_cases h : cmpL a b = 0
      ·rw [if_neg (by omega), if_neg (by omega)]; exact ih m
      ·rw [if_pos (by omega), if_pos h]; exact an
 trans := by
  intro l
  induction l with
  | nil => intro m k h1 h2; cases k <;> simp [cmpLs]
  | cons a l ih =>
    intro m k h1 h2
    cases m with
    | nil => simp [cmpLs] at h1
    | cons b m =>
      cases k with
      | nil => simp [cmpLs] at h2
      | cons c k =>
        unfold cmpLs at h1 h2 ⊢
        by_cases e1 : cmpL a b = 0
        ·have s := cmpL_cmp.same e1 c
         rw [if_neg (by omega)] at h1
         by_cases e2 : cmpL b c = 0
         ·rw [if_neg (by omega)] at h2
          rw [if_neg (by omega)]
          exact ih m k h1 h2
         ·rw [if_pos e2] at h2
          rw [if_pos (by omega)]; omega
        ·rw [if_pos e1] at h1
         have t : cmpL b c ≤ 0 := by
          by_cases e2 : cmpL b c = 0
          ·omega
          ·rw [if_pos e2] at h2; exact h2
         have := cmpL_cmp.lt_trans (x := a) (y := b) (z := c) h1 t (.inl (by omega))
         rw [if_pos (by omega)]; omega
structure PtK where
 l : List (ByteArray × ByteArray)
 r : Int
 f : Bool
 M : Int
 S : Int
 t : Bool
 T : Int
def cmpK (p q : PtK) : Int := cmpP p.l p.r p.f p.M p.S p.t p.T q.l q.r q.f q.M q.S q.t q.T
theorem cS_in (M S : Int) : 0 ≤ cS M S ∧ cS M S ≤ 18 := by
 unfold cS
 split
 ·rename_i h; obtain ⟨a, b, _⟩ := good_range h; exact ⟨a, b⟩
 ·omega
theorem cmpDk_cmp : Cmp (fun p q : Int × Int => cmpD (cM p.1 p.2) (cS p.1 p.2) (cM q.1 q.2) (cS q.1 q.2)) := by
 have e : (fun p q : Int × Int => cmpD (cM p.1 p.2) (cS p.1 p.2) (cM q.1 q.2) (cS q.1 q.2)) = fun p q => sg (v18 (cM p.1 p.2) (cS p.1 p.2) - v18 (cM q.1 q.2) (cS q.1 q.2)) := by
  funext p q; exact cmp_is _ _ _ _ (cS_in _ _) (cS_in _ _)
 rw [e]
 exact sg_cmp.pull (fun p : Int × Int => v18 (cM p.1 p.2) (cS p.1 p.2))
theorem lex2_zero (a : Int) : lex2 a 0 = a := by unfold lex2; split <;> omega
theorem cmpK_cmp : Cmp cmpK := by
 have h := (cmpLs_cmp.pull PtK.l).lex ((cmpB_cmp.pull PtK.t).lex ((cmpI_cmp.pull PtK.T).lex ((cmpI_cmp.pull PtK.r).lex ((cmpB_cmp.pull PtK.f).lex (cmpDk_cmp.pull (fun p : PtK => (p.M, p.S)))))))
 have e : cmpK = fun p q => lex2 (cmpLs p.l q.l) (lex2 (cmpB p.t q.t) (lex2 (cmpI p.T q.T) (lex2 (cmpI p.r q.r) (lex2 (cmpB p.f q.f) (cmpD (cM p.M p.S) (cS p.M p.S) (cM q.M q.S) (cS q.M q.S)))))) := by
  funext p q
  unfold cmpK cmpP
  rw [orL_cons, orL_cons, orL_cons, orL_cons, orL_cons, orL_cons, show orL [] = 0 from rfl, lex2_zero]
 rw [e]; exact h
end Go.Proofs.YtjjnmefihdjglaaGreat
