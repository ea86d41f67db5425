import Derived.Test.YtjjnmefihdjglaaGreatPtG
import Derived.Test.YtjjnmefihdjglaaGreatKD
import Derived.Test.YtjjnmefihdjglaaGreatKE
namespace Go.Proofs.YtjjnmefihdjglaaGreat
open Go.RowKit
def wordOf (k : Int) : ByteArray := if k = 0 then ⟨#[117, 110, 107, 110, 111, 119, 110]⟩ else if k = 1 then ⟨#[103, 97, 117, 103, 101]⟩ else if k = 2 then ⟨#[99, 111, 117, 110, 116, 101, 114]⟩ else if k = 3 then ⟨#[104, 105, 115, 116, 111, 103, 114, 97, 109]⟩ else if k = 4 then ⟨#[115, 117, 109, 109, 97, 114, 121]⟩ else ⟨#[]⟩
def kindOf (s : ByteArray) : Int × Bool := if cmpS ⟨#[117, 110, 107, 110, 111, 119, 110]⟩ s = 0 then (0, true) else if cmpS ⟨#[103, 97, 117, 103, 101]⟩ s = 0 then (1, true) else if cmpS ⟨#[99, 111, 117, 110, 116, 101, 114]⟩ s = 0 then (2, true) else if cmpS ⟨#[104, 105, 115, 116, 111, 103, 114, 97, 109]⟩ s = 0 then (3, true) else if cmpS ⟨#[115, 117, 109, 109, 97, 114, 121]⟩ s = 0 then (4, true) else (0, false)
set_option maxRecDepth 100000 in
theorem kinds_any (w : World) :
  Calls Tryz.prog 107 #[] w fun e w' => e = .returned (.agg #[.string ⟨#[117, 110, 107, 110, 111, 119, 110]⟩, .string ⟨#[103, 97, 117, 103, 101]⟩, .string ⟨#[99, 111, 117, 110, 116, 101, 114]⟩, .string ⟨#[104, 105, 115, 116, 111, 103, 114, 97, 109]⟩, .string ⟨#[115, 117, 109, 109, 97, 114, 121]⟩]) ∧ Ext w w' := by
 go_enter Tryz.func107, Tryz.ntmps107
 go_wp2_with fail
 exact bodyPost_ret (v := .agg #[.string ⟨#[117, 110, 107, 110, 111, 119, 110]⟩, .string ⟨#[103, 97, 117, 103, 101]⟩, .string ⟨#[99, 111, 117, 110, 116, 101, 114]⟩, .string ⟨#[104, 105, 115, 116, 111, 103, 114, 97, 109]⟩, .string ⟨#[115, 117, 109, 109, 97, 114, 121]⟩]) (by simp [results, Tryz.results107, go_sem]) rfl ⟨rfl, (Ext.refl _).alloc _⟩
set_option maxHeartbeats 2000000 in
set_option maxRecDepth 100000 in
theorem Typed_any (k : Int) (w : World) :
  Calls Tryz.prog 76 #[.int .i64 k] w fun e w' => e = .returned (.string (wordOf k)) ∧ Ext w w' := by
 unfold wordOf
 by_cases h0 : k = 0
 ·subst h0
  rw [if_pos rfl]
  go_enter Tryz.func76, Tryz.ntmps76
  go_wp2_with fail
  (with_reducible refine (kinds_any _).mono ?_)
  rintro e w1 ⟨rfl, x1⟩
  go_wp2_with fail
  go_ret
  exact ⟨rfl, x1.alloc _⟩
 ·rw [if_neg h0]
  by_cases h1 : k = 1
  ·subst h1
   rw [if_pos rfl]
   go_enter Tryz.func76, Tryz.ntmps76
   go_wp2_with fail
   (with_reducible refine (kinds_any _).mono ?_)
   rintro e w1 ⟨rfl, x1⟩
   go_wp2_with fail
   go_ret
   exact ⟨rfl, x1.alloc _⟩
  ·rw [if_neg h1]
   by_cases h2 : k = 2
   ·subst h2
    rw [if_pos rfl]
    go_enter Tryz.func76, Tryz.ntmps76
    go_wp2_with fail
    (with_reducible refine (kinds_any _).mono ?_)
    rintro e w1 ⟨rfl, x1⟩
    go_wp2_with fail
    go_ret
    exact ⟨rfl, x1.alloc _⟩
   ·rw [if_neg h2]
    by_cases h3 : k = 3
    ·subst h3
     rw [if_pos rfl]
     go_enter Tryz.func76, Tryz.ntmps76
     go_wp2_with fail
     (with_reducible refine (kinds_any _).mono ?_)
     rintro e w1 ⟨rfl, x1⟩
     go_wp2_with fail
     go_ret
     exact ⟨rfl, x1.alloc _⟩
    ·rw [if_neg h3]
     by_cases h4 : k = 4
     ·subst h4
      rw [if_pos rfl]
      go_enter Tryz.func76, Tryz.ntmps76
      go_wp2_with fail
      (with_reducible refine (kinds_any _).mono ?_)
      rintro e w1 ⟨rfl, x1⟩
      go_wp2_with fail
      go_ret
      exact ⟨rfl, x1.alloc _⟩
     ·rw [if_neg h4]
      by_cases hn : k < 0
      ·go_enter Tryz.func76, Tryz.ntmps76
       go_wp2_with fail
       (with_reducible refine (kinds_any _).mono ?_)
       rintro e w1 ⟨rfl, x1⟩
       go_wp2_with fail
       go_ret
       exact ⟨rfl, x1.alloc _⟩
      ·have h5 : 5 ≤ k := by omega
       go_enter Tryz.func76, Tryz.ntmps76
       go_wp2_with fail
       (with_reducible refine (kinds_any _).mono ?_)
       rintro e w1 ⟨rfl, x1⟩
       go_wp2_with fail
       go_ret
       exact ⟨rfl, x1.alloc _⟩
end Go.Proofs.YtjjnmefihdjglaaGreat
namespace Go.Proofs.YtjjnmefihdjglaaGreat
open Go.RowKit
def tailOf (k r : Int) : ByteArray := if r = 1 then ⟨#[95, 98, 117, 99, 107, 101, 116]⟩ else if r = 3 then ⟨#[95, 99, 111, 117, 110, 116]⟩ else if r = 4 then ⟨#[95, 115, 117, 109]⟩ else if k = 2 then ⟨#[95, 116, 111, 116, 97, 108]⟩ else ⟨#[]⟩
end Go.Proofs.YtjjnmefihdjglaaGreat
namespace Go.Proofs.YtjjnmefihdjglaaGreat
open Go.RowKit
theorem kindOf_word (s : ByteArray) : ((kindOf s).2 = true → wordOf (kindOf s).1 = s) ∧ ((kindOf s).2 = false → (kindOf s).1 = 0) ∧ (-1 ≤ (kindOf s).1 ∧ (kindOf s).1 ≤ 4) := by
 unfold kindOf
 repeat' split
 all_goals first
  | (refine ⟨fun _ => ?_, fun h => (by cases h), by decide⟩; exact (cmpS_zero _ _).1 (by assumption))
  | exact ⟨fun h => (by cases h), fun _ => rfl, by decide⟩
theorem kindOf_wordOf (k : Int) (h0 : 0 ≤ k) (h4 : k ≤ 4) : kindOf (wordOf k) = (k, true) := by
 rcases (show k = 0 ∨ k = 1 ∨ k = 2 ∨ k = 3 ∨ k = 4 from by omega) with rfl | rfl | rfl | rfl | rfl <;> decide
theorem wordOf_none (k : Int) : (wordOf k = ⟨#[]⟩) ↔ (k < 0 ∨ 4 < k) := by
 unfold wordOf
 constructor
 ·intro h
  by_cases h5 : k < 0 ∨ 4 < k
  ·exact h5
  ·exfalso
   rcases (show k = 0 ∨ k = 1 ∨ k = 2 ∨ k = 3 ∨ k = 4 from by omega) with rfl | rfl | rfl | rfl | rfl <;> simp at h
 ·intro h
  rw [if_neg (by omega), if_neg (by omega), if_neg (by omega), if_neg (by omega), if_neg (by omega)]
theorem wordEmpty (k : Int) : (wordOf k).toList.isEmpty = decide (k < 0 ∨ 4 < k) := by
 by_cases h : k < 0 ∨ 4 < k
 ·rw [decide_eq_true h, (wordOf_none k).2 h, ByteArray.toList_eq]; rfl
 ·rw [decide_eq_false h]
  rcases (show k = 0 ∨ k = 1 ∨ k = 2 ∨ k = 3 ∨ k = 4 from by omega) with rfl | rfl | rfl | rfl | rfl <;> (rw [ByteArray.toList_eq]; decide)
end Go.Proofs.YtjjnmefihdjglaaGreat
namespace Go.Proofs.YtjjnmefihdjglaaGreat
open Go.RowKit
structure Cmp {α : Type} (f : α → α → Int) : Prop where
 c3 : ∀ x y, C3 (f x y)
 anti : ∀ x y, f y x = -f x y
 trans : ∀ x y z, f x y ≤ 0 → f y z ≤ 0 → f x z ≤ 0
theorem Cmp.refl {α : Type} {f : α → α → Int} (h : Cmp f) (x : α) : f x x = 0 := by
 have := h.anti x x
 omega
theorem Cmp.same {α : Type} {f : α → α → Int} (h : Cmp f) {x y : α} (e : f x y = 0) (z : α) : f x z = f y z := by
 have e2 : f y x = 0 := by have := h.anti x y; omega
 have t1 := h.trans x y z (by omega)
 have t2 := h.trans y x z (by omega)
 have t3 := h.trans z x y
 have t4 := h.trans z y x
 have a1 := h.anti x z
 have a2 := h.anti y z
 have c1 := h.c3 x z
 have c2 := h.c3 y z
 unfold C3 at c1 c2
 rcases c1 with c | c | c <;> rcases c2 with d | d | d <;> omega
theorem Cmp.lt_trans {α : Type} {f : α → α → Int} (h : Cmp f) {x y z : α} (h1 : f x y ≤ 0) (h2 : f y z ≤ 0) (h3 : f x y < 0 ∨ f y z < 0) : f x z < 0 := by
 have t := h.trans x y z h1 h2
 rcases (show f x z < 0 ∨ f x z = 0 from by omega) with h4 | h4
 ·exact h4
 ·have s1 := h.same h4 y
  have a := h.anti y z
  omega
theorem Cmp.pull {α β : Type} {f : α → α → Int} (h : Cmp f) (g : β → α) : Cmp (fun x y => f (g x) (g y)) :=
 ⟨fun _ _ => h.c3 _ _, fun _ _ => h.anti _ _, fun _ _ _ => h.trans _ _ _⟩
def lex2 (a b : Int) : Int := if a ≠ 0 then a else b
theorem Cmp.lex {α : Type} {f g : α → α → Int} (h : Cmp f) (k : Cmp g) : Cmp (fun x y => lex2 (f x y) (g x y)) where
 c3 x y := by
  unfold lex2
  split
  ·exact h.c3 _ _
  ·exact k.c3 _ _
 anti x y := by
  have a := h.anti x y
  have b := k.anti x y
  unfold lex2
  by_cases h0 : f x y = 0
  ·rw [if_neg (by omega), if_neg (by omega)]; exact b
  ·rw [if_pos (by omega), if_pos h0]; exact a
 trans x y z h1 h2 := by
  unfold lex2 at *
  by_cases e1 : f x y = 0
  ·have s := h.same e1 z
   rw [if_neg (by omega)] at h1
   by_cases e2 : f y z = 0
   ·rw [if_neg (by omega)] at h2
    rw [if_neg (by omega)]
    exact k.trans x y z h1 h2
   ·rw [if_pos e2] at h2
    rw [if_pos (by omega)]; omega
  ·rw [if_pos e1] at h1
   by_cases e2 : f y z = 0
   ·rw [if_neg (by omega)] at h2
    have := h.lt_trans (x := x) (y := y) (z := z) h1 (by omega) (.inl (by omega))
    rw [if_pos (by omega)]; omega
   ·rw [if_pos e2] at h2
    have := h.lt_trans (x := x) (y := y) (z := z) h1 h2 (.inl (by omega))
    rw [if_pos (by omega)]; omega
theorem cmpBytes_cmp : Cmp Lib.compareBytes where
 c3 := cmpBytes_c3
 anti := by
  intro l
  induction l with
  | nil => intro m; cases m <;> rfl
  | cons a l ih =>
    intro m
    cases m with
    | nil => rfl
    | cons b m =>
      unfold Lib.compareBytes
      by_cases h : a < b
      ·rw [if_pos h, if_neg (UInt8.lt_asymm h), if_pos h]; rfl
      ·by_cases h2 : b < a
       ·rw [if_pos h2, if_neg h, if_pos h2]
       ·rw [if_neg h, if_neg h2, if_neg h2, if_neg h]; exact ih m
 trans := by
  intro l
  induction l with
  | nil => intro m k h1 h2; cases k <;> simp [Lib.compareBytes]
  | cons a l ih =>
    intro m k h1 h2
    cases m with
    | nil => simp [Lib.compareBytes] at h1
    | cons b m =>
      cases k with
      | nil => simp [Lib.compareBytes] at h2
      | cons c k =>
        unfold Lib.compareBytes at h1 h2 ⊢
        by_cases hab : a < b
        ·by_cases hbc : b < c
         ·rw [if_pos (UInt8.lt_trans hab hbc)]; omega
         ·rw [if_neg hbc] at h2
          by_cases hcb : c < b
          ·rw [if_pos hcb] at h2; omega
          ·have : b = c := UInt8.le_antisymm (UInt8.not_lt.1 hcb) (UInt8.not_lt.1 hbc)
           subst this
           rw [if_pos hab]; omega
        ·rw [if_neg hab] at h1
         by_cases hba : b < a
         ·rw [if_pos hba] at h1; omega
         ·rw [if_neg hba] at h1
          have : a = b := UInt8.le_antisymm (UInt8.not_lt.1 hba) (UInt8.not_lt.1 hab)
          subst this
          by_cases hac : a < c
          ·rw [if_pos hac]; omega
          ·rw [if_neg hac] at h2 ⊢
           by_cases hca : c < a
           ·rw [if_pos hca] at h2; omega
           ·rw [if_neg hca] at h2 ⊢
            exact ih m k h1 h2
theorem cmpS_cmp : Cmp cmpS := cmpBytes_cmp.pull (fun s : ByteArray => s.data.toList)
theorem cmpI_cmp : Cmp cmpI where
 c3 := cmpI_c3
 anti x y := by unfold cmpI; (repeat' split) <;> omega
 trans x y z := by unfold cmpI; (repeat' split) <;> omega
theorem cmpB_cmp : Cmp cmpB where
 c3 := cmpB_c3
 anti x y := by cases x <;> cases y <;> rfl
 trans x y z := by cases x <;> cases y <;> cases z <;> decide
theorem sg_cmp : Cmp (fun x y : Int => sg (x - y)) where
 c3 x y := by show C3 (sg (x - y)); unfold C3 sg; (repeat' split) <;> simp
 anti x y := by unfold sg; (repeat' split) <;> omega
 trans x y z := by unfold sg; (repeat' split) <;> omega
theorem orL_two (a b : Int) : orL [a, b] = lex2 a b := by
 show lex2 a (lex2 b 0) = lex2 a b
 unfold lex2
 split
 ·rfl
 ·split <;> omega
theorem orL_cons (a : Int) (l : List Int) : orL (a :: l) = lex2 a (orL l) := rfl
theorem cmpL_cmp : Cmp cmpL := by
 have h := (cmpS_cmp.pull (fun x : ByteArray × ByteArray => x.1)).lex (cmpS_cmp.pull (fun x : ByteArray × ByteArray => x.2))
 have e : cmpL = fun x y => lex2 (cmpS x.1 y.1) (cmpS x.2 y.2) := by funext x y; exact orL_two _ _
 rw [e]; exact h
theorem cmpLs_cmp : Cmp cmpLs where
 c3 := cmpLs_c3
 anti := by
  intro l
  induction l with
  | nil => intro m; cases m <;> rfl
  | cons a l ih =>
    intro m
    cases m with
    | nil => rfl
    | cons b m =>
      have an := cmpL_cmp.anti a b
      unfold cmpLs
      by_cases h : cmpL a b = 0
      ·rw [if_neg (by omega), if_neg (by omega)]; exact ih m
      ·rw [if_pos (by omega), if_pos h]; exact an
 trans := by
  intro l
  induction l with
  | nil => intro m k h1 h2; cases k <;> simp [cmpLs]
  | cons a l ih =>
    intro m k h1 h2
    cases m with
    | nil => simp [cmpLs] at h1
    | cons b m =>
      cases k with
      | nil => simp [cmpLs] at h2
      | cons c k =>
        unfold cmpLs at h1 h2 ⊢
        by_cases e1 : cmpL a b = 0
        ·have s := cmpL_cmp.same e1 c
         rw [if_neg (by omega)] at h1
         by_cases e2 : cmpL b c = 0
         ·rw [if_neg (by omega)] at h2
          rw [if_neg (by omega)]
          exact ih m k h1 h2
         ·rw [if_pos e2] at h2
          rw [if_pos (by omega)]; omega
        ·rw [if_pos e1] at h1
         have t : cmpL b c ≤ 0 := by
          by_cases e2 : cmpL b c = 0
          ·omega
          ·rw [if_pos e2] at h2; exact h2
         have := cmpL_cmp.lt_trans (x := a) (y := b) (z := c) h1 t (.inl (by omega))
         rw [if_pos (by omega)]; omega
structure PtK where
 l : List (ByteArray × ByteArray)
 r : Int
 f : Bool
 M : Int
 S : Int
 t : Bool
 T : Int
def cmpK (p q : PtK) : Int := cmpP p.l p.r p.f p.M p.S p.t p.T q.l q.r q.f q.M q.S q.t q.T
theorem cS_in (M S : Int) : 0 ≤ cS M S ∧ cS M S ≤ 18 := by
 unfold cS
 split
 ·rename_i h; obtain ⟨a, b, _⟩ := good_range h; exact ⟨a, b⟩
 ·omega
theorem cmpDk_cmp : Cmp (fun p q : Int × Int => cmpD (cM p.1 p.2) (cS p.1 p.2) (cM q.1 q.2) (cS q.1 q.2)) := by
 have e : (fun p q : Int × Int => cmpD (cM p.1 p.2) (cS p.1 p.2) (cM q.1 q.2) (cS q.1 q.2)) = fun p q => sg (v18 (cM p.1 p.2) (cS p.1 p.2) - v18 (cM q.1 q.2) (cS q.1 q.2)) := by
  funext p q; exact cmp_is _ _ _ _ (cS_in _ _) (cS_in _ _)
 rw [e]
 exact sg_cmp.pull (fun p : Int × Int => v18 (cM p.1 p.2) (cS p.1 p.2))
theorem lex2_zero (a : Int) : lex2 a 0 = a := by unfold lex2; split <;> omega
theorem cmpK_cmp : Cmp cmpK := by
 have h := (cmpLs_cmp.pull PtK.l).lex ((cmpB_cmp.pull PtK.t).lex ((cmpI_cmp.pull PtK.T).lex ((cmpI_cmp.pull PtK.r).lex ((cmpB_cmp.pull PtK.f).lex (cmpDk_cmp.pull (fun p : PtK => (p.M, p.S)))))))
 have e : cmpK = fun p q => lex2 (cmpLs p.l q.l) (lex2 (cmpB p.t q.t) (lex2 (cmpI p.T q.T) (lex2 (cmpI p.r q.r) (lex2 (cmpB p.f q.f) (cmpD (cM p.M p.S) (cS p.M p.S) (cM q.M q.S) (cS q.M q.S)))))) := by
  funext p q
  unfold cmpK cmpP
  rw [orL_cons, orL_cons, orL_cons, orL_cons, orL_cons, orL_cons, show orL [] = 0 from rfl, lex2_zero]
 rw [e]; exact h
end Go.Proofs.YtjjnmefihdjglaaGreat
namespace Go.Proofs.YtjjnmefihdjglaaGreat
open Go.RowKit
structure PtD where
 a : Option Addr
 c : Nat
 l : List (ByteArray × ByteArray)
 r : Int
 f : Bool
 M : Int
 S : Int
 m : Int
 s : Int
 t : Bool
 T : Int
def PtD.v (p : PtD) : Value := ptV (.slice p.a p.l.length p.c) p.r p.f p.M p.S p.m p.s p.t p.T
def PtD.Ok (p : PtD) (w : World) : Prop := (p.l.length : Int) ≤ 9223372036854775807 ∧ LabA p.a p.l w ∧ (∀ x ∈ p.l, x.1.size ≤ 9223372036854775807 ∧ x.2.size ≤ 9223372036854775807) ∧ (I64 p.M ∧ I64 p.S) ∧ (I64 p.m ∧ I64 p.s)
theorem PtD.Ok.ext {p : PtD} {w w' : World} (h : p.Ok w) (x : Ext w w') : p.Ok w' := ⟨h.1, h.2.1.ext x, h.2.2⟩
def PtD.k (p : PtD) : PtK := ⟨p.l, p.r, p.f, p.M, p.S, p.t, p.T⟩
def PtsAt (b o : Nat) (l : List PtD) (w : World) : Prop := ∀ i (h : i < l.length), w.cell? ⟨b, o + i * 9, none⟩ = some (.slice (l[i]).a (l[i]).l.length (l[i]).c) ∧ w.cell? ⟨b, o + i * 9 + 1, none⟩ = some (.int .i64 (l[i]).r) ∧ w.cell? ⟨b, o + i * 9 + 2, none⟩ = some (.bool (l[i]).f) ∧ w.cell? ⟨b, o + i * 9 + 3, none⟩ = some (.int .i64 (l[i]).M) ∧ w.cell? ⟨b, o + i * 9 + 4, none⟩ = some (.int .i64 (l[i]).S) ∧ w.cell? ⟨b, o + i * 9 + 5, none⟩ = some (.int .i64 (l[i]).m) ∧ w.cell? ⟨b, o + i * 9 + 6, none⟩ = some (.int .i64 (l[i]).s) ∧ w.cell? ⟨b, o + i * 9 + 7, none⟩ = some (.bool (l[i]).t) ∧ w.cell? ⟨b, o + i * 9 + 8, none⟩ = some (.int .i64 (l[i]).T)
def PtsA (a : Option Addr) (l : List PtD) (w : World) : Prop := (0 < l.length → ∃ b o, a = some ⟨b, o, none⟩ ∧ b < w.heap.size ∧ PtsAt b o l w) ∧ ∀ p ∈ l, p.Ok w
theorem PtsA.ext {a : Option Addr} {l : List PtD} {w w' : World} (h : PtsA a l w) (x : Ext w w') : PtsA a l w' := by
 refine ⟨fun h0 => ?_, fun p hp => (h.2 p hp).ext x⟩
 obtain ⟨b, o, rfl, hb, hl⟩ := h.1 h0
 refine ⟨b, o, rfl, Nat.lt_of_lt_of_le hb x.size, fun i hi => ?_⟩
 obtain ⟨h0, h1, h2, h3, h4, h5, h6, h7, h8⟩ := hl i hi
 exact ⟨(x.cell hb).trans h0, (x.cell hb).trans h1, (x.cell hb).trans h2, (x.cell hb).trans h3, (x.cell hb).trans h4, (x.cell hb).trans h5, (x.cell hb).trans h6, (x.cell hb).trans h7, (x.cell hb).trans h8⟩
theorem cmpD_any (p q : PtD) (w : World) (hp : p.Ok w) (hq : q.Ok w) :
  Calls Tryz.prog 56 #[p.v, q.v] w fun e w' => e = .returned (.int .i64 (cmpK p.k q.k)) ∧ Ext w w' :=
 ptCompare_any p.a q.a p.c q.c p.l q.l p.r p.f p.M p.S p.m p.s p.t p.T q.r q.f q.M q.S q.m q.s q.t q.T w hp.1 hq.1 hp.2.1 hq.2.1 hp.2.2.2.1.1 hp.2.2.2.1.2 hq.2.2.2.1.1 hq.2.2.2.1.2
def risesK : List PtK → Bool
 | p :: q :: l => decide (cmpK p q < 0) && risesK (q :: l)
 | _ => true
set_option maxHeartbeats 8000000 in
set_option maxRecDepth 100000 in
theorem rises_any (a : Option Addr) (c : Nat) (l : List PtD) (w : World) (hl : (l.length : Int) ≤ 9223372036854775807) (hA : PtsA a l w) :
  Calls Tryz.prog 70 #[.slice a l.length c] w fun e w' => e = .returned (.bool (risesK (l.map PtD.k))) ∧ Ext w w' := by
 obtain ⟨R, hR⟩ : ∃ R, risesK (l.map PtD.k) = R := ⟨_, rfl⟩
 rw [hR]
 go_enter Tryz.func70, Tryz.ntmps70
 go_wp2_with fail
 go_loopw [3] (fun i wr => ∃ k : Nat, i = .int .i64 ((k + 1 : Nat) : Int) ∧ (k + 1 ≤ l.length ∨ l.length = 0 ∧ k = 0) ∧ Hid (risesK ((l.drop k).map PtD.k) = R) ∧ Ext w wr) (fun i _ => l.length - (intOf i).toNat)
 case atStart => exact ⟨0, rfl, by omega, Lib.hid hR, Ext.refl _⟩
 case round =>
  obtain ⟨k, rfl, hk, hg, xr⟩ := hrel
  clear hR
  by_cases hlt : k + 1 < l.length
  ·have hd := hg.out
   rw [List.drop_eq_getElem_cons (show k < l.length from by omega), List.drop_eq_getElem_cons hlt, List.map_cons, List.map_cons, risesK] at hd
   obtain ⟨b, o, rfl, hb, hL⟩ := hA.1 (by omega)
   have ok1 := (hA.2 _ (List.getElem_mem (show k < l.length from by omega))).ext xr.drew
   have ok2 := (hA.2 _ (List.getElem_mem hlt)).ext xr.drew
   have L1 := hL k (by omega)
   have L2 := hL (k + 1) hlt
   have hd2 : Hid (risesK ((l.drop (k + 1)).map PtD.k) = risesK ((l[k + 1]).k :: (l.drop (k + 1 + 1)).map PtD.k)) := Lib.hid (by rw [List.drop_eq_getElem_cons hlt, List.map_cons])
   generalize l[k] = p at *
   generalize l[k + 1] = q at *
   have C := cmpD_any p q wr.drew ok1 ok2
   obtain ⟨cv, hcv⟩ : ∃ cv, cmpK p.k q.k = cv := ⟨_, rfl⟩
   rw [hcv] at C hd
   unfold PtD.v ptV at C
   have e1 : IntKind.i64.wrap (k : Int) = (k : Int) := IntWalk.i64_in _ (by omega)
   have e2 : (k : Int) + 1 < (l.length : Int) := by omega
   have e3 : (0 : Int) ≤ (k : Int) + 1 := by omega
   have e4 : (k : Int) < (l.length : Int) := by omega
   clear hL ok1 ok2 hA hcv hg
   by_cases h0 : cv < 0
   ·rw [decide_eq_true h0, Bool.true_and, ← hd2.out] at hd
    replace hd := Lib.hid hd
    have hk2 : ¬ cv ≥ 0 := by omega
    clear hd2
    go_wp2_with fail
    refine wp_region_held_drew (S := Ext w) (by kernel_rfl) (xr.drew) (fun hHeld => ?_)
    refine tk (i := 0) rfl (by kernel_rfl) (fun _ _ _ h => h) rfl (fun w9 hSw => by obtain ⟨k0, k1, k2, k3, k4, k5, k6, k7, k8⟩ := L1; obtain ⟨p0, p1, p2, p3, p4, p5, p6, p7, p8⟩ := L2; replace k0 := (Ext.cell hSw hb).trans k0; replace k1 := (Ext.cell hSw hb).trans k1; replace k2 := (Ext.cell hSw hb).trans k2; replace k3 := (Ext.cell hSw hb).trans k3; replace k4 := (Ext.cell hSw hb).trans k4; replace k5 := (Ext.cell hSw hb).trans k5; replace k6 := (Ext.cell hSw hb).trans k6; replace k7 := (Ext.cell hSw hb).trans k7; replace k8 := (Ext.cell hSw hb).trans k8; replace p0 := (Ext.cell hSw hb).trans p0; replace p1 := (Ext.cell hSw hb).trans p1; replace p2 := (Ext.cell hSw hb).trans p2; replace p3 := (Ext.cell hSw hb).trans p3; replace p4 := (Ext.cell hSw hb).trans p4; replace p5 := (Ext.cell hSw hb).trans p5; replace p6 := (Ext.cell hSw hb).trans p6; replace p7 := (Ext.cell hSw hb).trans p7; replace p8 := (Ext.cell hSw hb).trans p8; go_simp; (try with_reducible rfl)) hHeld ?_
    try simp only [Act.put, aT, aZ, aS]
    refine tk (i := 1) rfl (by kernel_rfl) (fun _ _ _ h => h) rfl (fun w9 hSw => by obtain ⟨k0, k1, k2, k3, k4, k5, k6, k7, k8⟩ := L1; obtain ⟨p0, p1, p2, p3, p4, p5, p6, p7, p8⟩ := L2; replace k0 := (Ext.cell hSw hb).trans k0; replace k1 := (Ext.cell hSw hb).trans k1; replace k2 := (Ext.cell hSw hb).trans k2; replace k3 := (Ext.cell hSw hb).trans k3; replace k4 := (Ext.cell hSw hb).trans k4; replace k5 := (Ext.cell hSw hb).trans k5; replace k6 := (Ext.cell hSw hb).trans k6; replace k7 := (Ext.cell hSw hb).trans k7; replace k8 := (Ext.cell hSw hb).trans k8; replace p0 := (Ext.cell hSw hb).trans p0; replace p1 := (Ext.cell hSw hb).trans p1; replace p2 := (Ext.cell hSw hb).trans p2; replace p3 := (Ext.cell hSw hb).trans p3; replace p4 := (Ext.cell hSw hb).trans p4; replace p5 := (Ext.cell hSw hb).trans p5; replace p6 := (Ext.cell hSw hb).trans p6; replace p7 := (Ext.cell hSw hb).trans p7; replace p8 := (Ext.cell hSw hb).trans p8; go_simp; (try with_reducible rfl)) hHeld ?_
    try simp only [Act.put, aT, aZ, aS]
    refine tk (i := 2) rfl (by kernel_rfl) (fun _ _ _ h => h) rfl (fun w9 hSw => by obtain ⟨k0, k1, k2, k3, k4, k5, k6, k7, k8⟩ := L1; obtain ⟨p0, p1, p2, p3, p4, p5, p6, p7, p8⟩ := L2; replace k0 := (Ext.cell hSw hb).trans k0; replace k1 := (Ext.cell hSw hb).trans k1; replace k2 := (Ext.cell hSw hb).trans k2; replace k3 := (Ext.cell hSw hb).trans k3; replace k4 := (Ext.cell hSw hb).trans k4; replace k5 := (Ext.cell hSw hb).trans k5; replace k6 := (Ext.cell hSw hb).trans k6; replace k7 := (Ext.cell hSw hb).trans k7; replace k8 := (Ext.cell hSw hb).trans k8; replace p0 := (Ext.cell hSw hb).trans p0; replace p1 := (Ext.cell hSw hb).trans p1; replace p2 := (Ext.cell hSw hb).trans p2; replace p3 := (Ext.cell hSw hb).trans p3; replace p4 := (Ext.cell hSw hb).trans p4; replace p5 := (Ext.cell hSw hb).trans p5; replace p6 := (Ext.cell hSw hb).trans p6; replace p7 := (Ext.cell hSw hb).trans p7; replace p8 := (Ext.cell hSw hb).trans p8; go_simp; (try with_reducible rfl)) hHeld ?_
    try simp only [Act.put, aT, aZ, aS]
    refine tk (i := 3) rfl (by kernel_rfl) (fun _ _ _ h => h) rfl (fun w9 hSw => by obtain ⟨k0, k1, k2, k3, k4, k5, k6, k7, k8⟩ := L1; obtain ⟨p0, p1, p2, p3, p4, p5, p6, p7, p8⟩ := L2; replace k0 := (Ext.cell hSw hb).trans k0; replace k1 := (Ext.cell hSw hb).trans k1; replace k2 := (Ext.cell hSw hb).trans k2; replace k3 := (Ext.cell hSw hb).trans k3; replace k4 := (Ext.cell hSw hb).trans k4; replace k5 := (Ext.cell hSw hb).trans k5; replace k6 := (Ext.cell hSw hb).trans k6; replace k7 := (Ext.cell hSw hb).trans k7; replace k8 := (Ext.cell hSw hb).trans k8; replace p0 := (Ext.cell hSw hb).trans p0; replace p1 := (Ext.cell hSw hb).trans p1; replace p2 := (Ext.cell hSw hb).trans p2; replace p3 := (Ext.cell hSw hb).trans p3; replace p4 := (Ext.cell hSw hb).trans p4; replace p5 := (Ext.cell hSw hb).trans p5; replace p6 := (Ext.cell hSw hb).trans p6; replace p7 := (Ext.cell hSw hb).trans p7; replace p8 := (Ext.cell hSw hb).trans p8; go_simp; (try with_reducible rfl)) hHeld ?_
    try simp only [Act.put, aT, aZ, aS]
    refine tk (i := 4) rfl (by kernel_rfl) (fun _ _ _ h => h) rfl (fun w9 hSw => by obtain ⟨k0, k1, k2, k3, k4, k5, k6, k7, k8⟩ := L1; obtain ⟨p0, p1, p2, p3, p4, p5, p6, p7, p8⟩ := L2; replace k0 := (Ext.cell hSw hb).trans k0; replace k1 := (Ext.cell hSw hb).trans k1; replace k2 := (Ext.cell hSw hb).trans k2; replace k3 := (Ext.cell hSw hb).trans k3; replace k4 := (Ext.cell hSw hb).trans k4; replace k5 := (Ext.cell hSw hb).trans k5; replace k6 := (Ext.cell hSw hb).trans k6; replace k7 := (Ext.cell hSw hb).trans k7; replace k8 := (Ext.cell hSw hb).trans k8; replace p0 := (Ext.cell hSw hb).trans p0; replace p1 := (Ext.cell hSw hb).trans p1; replace p2 := (Ext.cell hSw hb).trans p2; replace p3 := (Ext.cell hSw hb).trans p3; replace p4 := (Ext.cell hSw hb).trans p4; replace p5 := (Ext.cell hSw hb).trans p5; replace p6 := (Ext.cell hSw hb).trans p6; replace p7 := (Ext.cell hSw hb).trans p7; replace p8 := (Ext.cell hSw hb).trans p8; go_simp; (try with_reducible rfl)) hHeld ?_
    try simp only [Act.put, aT, aZ, aS]
    refine tk (i := 5) rfl (by kernel_rfl) (fun _ _ _ h => h) rfl (fun w9 hSw => by obtain ⟨k0, k1, k2, k3, k4, k5, k6, k7, k8⟩ := L1; obtain ⟨p0, p1, p2, p3, p4, p5, p6, p7, p8⟩ := L2; replace k0 := (Ext.cell hSw hb).trans k0; replace k1 := (Ext.cell hSw hb).trans k1; replace k2 := (Ext.cell hSw hb).trans k2; replace k3 := (Ext.cell hSw hb).trans k3; replace k4 := (Ext.cell hSw hb).trans k4; replace k5 := (Ext.cell hSw hb).trans k5; replace k6 := (Ext.cell hSw hb).trans k6; replace k7 := (Ext.cell hSw hb).trans k7; replace k8 := (Ext.cell hSw hb).trans k8; replace p0 := (Ext.cell hSw hb).trans p0; replace p1 := (Ext.cell hSw hb).trans p1; replace p2 := (Ext.cell hSw hb).trans p2; replace p3 := (Ext.cell hSw hb).trans p3; replace p4 := (Ext.cell hSw hb).trans p4; replace p5 := (Ext.cell hSw hb).trans p5; replace p6 := (Ext.cell hSw hb).trans p6; replace p7 := (Ext.cell hSw hb).trans p7; replace p8 := (Ext.cell hSw hb).trans p8; go_simp; (try with_reducible rfl)) hHeld ?_
    try simp only [Act.put, aT, aZ, aS]
    refine tk (i := 6) rfl (by kernel_rfl) (fun _ _ _ h => h) rfl (fun w9 hSw => by obtain ⟨k0, k1, k2, k3, k4, k5, k6, k7, k8⟩ := L1; obtain ⟨p0, p1, p2, p3, p4, p5, p6, p7, p8⟩ := L2; replace k0 := (Ext.cell hSw hb).trans k0; replace k1 := (Ext.cell hSw hb).trans k1; replace k2 := (Ext.cell hSw hb).trans k2; replace k3 := (Ext.cell hSw hb).trans k3; replace k4 := (Ext.cell hSw hb).trans k4; replace k5 := (Ext.cell hSw hb).trans k5; replace k6 := (Ext.cell hSw hb).trans k6; replace k7 := (Ext.cell hSw hb).trans k7; replace k8 := (Ext.cell hSw hb).trans k8; replace p0 := (Ext.cell hSw hb).trans p0; replace p1 := (Ext.cell hSw hb).trans p1; replace p2 := (Ext.cell hSw hb).trans p2; replace p3 := (Ext.cell hSw hb).trans p3; replace p4 := (Ext.cell hSw hb).trans p4; replace p5 := (Ext.cell hSw hb).trans p5; replace p6 := (Ext.cell hSw hb).trans p6; replace p7 := (Ext.cell hSw hb).trans p7; replace p8 := (Ext.cell hSw hb).trans p8; go_simp; (try with_reducible rfl)) hHeld ?_
    try simp only [Act.put, aT, aZ, aS]
    refine tk (i := 7) rfl (by kernel_rfl) (fun _ _ _ h => h) rfl (fun w9 hSw => by obtain ⟨k0, k1, k2, k3, k4, k5, k6, k7, k8⟩ := L1; obtain ⟨p0, p1, p2, p3, p4, p5, p6, p7, p8⟩ := L2; replace k0 := (Ext.cell hSw hb).trans k0; replace k1 := (Ext.cell hSw hb).trans k1; replace k2 := (Ext.cell hSw hb).trans k2; replace k3 := (Ext.cell hSw hb).trans k3; replace k4 := (Ext.cell hSw hb).trans k4; replace k5 := (Ext.cell hSw hb).trans k5; replace k6 := (Ext.cell hSw hb).trans k6; replace k7 := (Ext.cell hSw hb).trans k7; replace k8 := (Ext.cell hSw hb).trans k8; replace p0 := (Ext.cell hSw hb).trans p0; replace p1 := (Ext.cell hSw hb).trans p1; replace p2 := (Ext.cell hSw hb).trans p2; replace p3 := (Ext.cell hSw hb).trans p3; replace p4 := (Ext.cell hSw hb).trans p4; replace p5 := (Ext.cell hSw hb).trans p5; replace p6 := (Ext.cell hSw hb).trans p6; replace p7 := (Ext.cell hSw hb).trans p7; replace p8 := (Ext.cell hSw hb).trans p8; go_simp; (try with_reducible rfl)) hHeld ?_
    try simp only [Act.put, aT, aZ, aS]
    refine tk (i := 8) rfl (by kernel_rfl) (fun _ _ _ h => h) rfl (fun w9 hSw => by obtain ⟨k0, k1, k2, k3, k4, k5, k6, k7, k8⟩ := L1; obtain ⟨p0, p1, p2, p3, p4, p5, p6, p7, p8⟩ := L2; replace k0 := (Ext.cell hSw hb).trans k0; replace k1 := (Ext.cell hSw hb).trans k1; replace k2 := (Ext.cell hSw hb).trans k2; replace k3 := (Ext.cell hSw hb).trans k3; replace k4 := (Ext.cell hSw hb).trans k4; replace k5 := (Ext.cell hSw hb).trans k5; replace k6 := (Ext.cell hSw hb).trans k6; replace k7 := (Ext.cell hSw hb).trans k7; replace k8 := (Ext.cell hSw hb).trans k8; replace p0 := (Ext.cell hSw hb).trans p0; replace p1 := (Ext.cell hSw hb).trans p1; replace p2 := (Ext.cell hSw hb).trans p2; replace p3 := (Ext.cell hSw hb).trans p3; replace p4 := (Ext.cell hSw hb).trans p4; replace p5 := (Ext.cell hSw hb).trans p5; replace p6 := (Ext.cell hSw hb).trans p6; replace p7 := (Ext.cell hSw hb).trans p7; replace p8 := (Ext.cell hSw hb).trans p8; go_simp; (try with_reducible rfl)) hHeld ?_
    try simp only [Act.put, aT, aZ, aS]
    refine wpAnyH_ready (rs := [9]) (by kernel_rfl) (by simp) (AllReadyH.cons (o := ?om10) ?im10 (fun K hK => ?_) AllReadyH.nil)
    case im10 => simp only [List.getElem?_toArray, List.getElem?_cons_succ, List.getElem?_cons_zero]; rfl
    rw [if_pos (by rfl)]
    go_simp
    go_at_call 56
    (with_reducible refine (C).mono ?_)
    rintro e wz ⟨rfl, xz⟩
    refine hK.out _ _ (Ext.trans hHeld xz) (fun hHeld => ?_)
    clear hK K
    try simp only [aT, aZ, aS]
    refine tk (i := 10) rfl (by kernel_rfl) (fun _ _ _ h => h) rfl (fun w9 hSw => by go_simp; (try with_reducible rfl)) hHeld ?_
    try simp only [Act.put, aT, aZ, aS]
    refine wpAnyH_done (by kernel_rfl) ?_ _
    go_wp2_with fail
    go_roundw
    case rel => exact ⟨k + 1, rfl, .inl hlt, hd, hHeld⟩
    case measure => simp only [intOf]; omega
   ·rw [decide_eq_false h0, Bool.false_and] at hd
    have HV : Hid (R = false) := Lib.hid hd.symm
    have hk2 : cv ≥ 0 := by omega
    clear hd2 hd
    go_wp2_with fail
    refine wp_region_held_drew (S := Ext w) (by kernel_rfl) (xr.drew) (fun hHeld => ?_)
    refine tk (i := 0) rfl (by kernel_rfl) (fun _ _ _ h => h) rfl (fun w9 hSw => by obtain ⟨k0, k1, k2, k3, k4, k5, k6, k7, k8⟩ := L1; obtain ⟨p0, p1, p2, p3, p4, p5, p6, p7, p8⟩ := L2; replace k0 := (Ext.cell hSw hb).trans k0; replace k1 := (Ext.cell hSw hb).trans k1; replace k2 := (Ext.cell hSw hb).trans k2; replace k3 := (Ext.cell hSw hb).trans k3; replace k4 := (Ext.cell hSw hb).trans k4; replace k5 := (Ext.cell hSw hb).trans k5; replace k6 := (Ext.cell hSw hb).trans k6; replace k7 := (Ext.cell hSw hb).trans k7; replace k8 := (Ext.cell hSw hb).trans k8; replace p0 := (Ext.cell hSw hb).trans p0; replace p1 := (Ext.cell hSw hb).trans p1; replace p2 := (Ext.cell hSw hb).trans p2; replace p3 := (Ext.cell hSw hb).trans p3; replace p4 := (Ext.cell hSw hb).trans p4; replace p5 := (Ext.cell hSw hb).trans p5; replace p6 := (Ext.cell hSw hb).trans p6; replace p7 := (Ext.cell hSw hb).trans p7; replace p8 := (Ext.cell hSw hb).trans p8; go_simp; (try with_reducible rfl)) hHeld ?_
    try simp only [Act.put, aT, aZ, aS]
    refine tk (i := 1) rfl (by kernel_rfl) (fun _ _ _ h => h) rfl (fun w9 hSw => by obtain ⟨k0, k1, k2, k3, k4, k5, k6, k7, k8⟩ := L1; obtain ⟨p0, p1, p2, p3, p4, p5, p6, p7, p8⟩ := L2; replace k0 := (Ext.cell hSw hb).trans k0; replace k1 := (Ext.cell hSw hb).trans k1; replace k2 := (Ext.cell hSw hb).trans k2; replace k3 := (Ext.cell hSw hb).trans k3; replace k4 := (Ext.cell hSw hb).trans k4; replace k5 := (Ext.cell hSw hb).trans k5; replace k6 := (Ext.cell hSw hb).trans k6; replace k7 := (Ext.cell hSw hb).trans k7; replace k8 := (Ext.cell hSw hb).trans k8; replace p0 := (Ext.cell hSw hb).trans p0; replace p1 := (Ext.cell hSw hb).trans p1; replace p2 := (Ext.cell hSw hb).trans p2; replace p3 := (Ext.cell hSw hb).trans p3; replace p4 := (Ext.cell hSw hb).trans p4; replace p5 := (Ext.cell hSw hb).trans p5; replace p6 := (Ext.cell hSw hb).trans p6; replace p7 := (Ext.cell hSw hb).trans p7; replace p8 := (Ext.cell hSw hb).trans p8; go_simp; (try with_reducible rfl)) hHeld ?_
    try simp only [Act.put, aT, aZ, aS]
    refine tk (i := 2) rfl (by kernel_rfl) (fun _ _ _ h => h) rfl (fun w9 hSw => by obtain ⟨k0, k1, k2, k3, k4, k5, k6, k7, k8⟩ := L1; obtain ⟨p0, p1, p2, p3, p4, p5, p6, p7, p8⟩ := L2; replace k0 := (Ext.cell hSw hb).trans k0; replace k1 := (Ext.cell hSw hb).trans k1; replace k2 := (Ext.cell hSw hb).trans k2; replace k3 := (Ext.cell hSw hb).trans k3; replace k4 := (Ext.cell hSw hb).trans k4; replace k5 := (Ext.cell hSw hb).trans k5; replace k6 := (Ext.cell hSw hb).trans k6; replace k7 := (Ext.cell hSw hb).trans k7; replace k8 := (Ext.cell hSw hb).trans k8; replace p0 := (Ext.cell hSw hb).trans p0; replace p1 := (Ext.cell hSw hb).trans p1; replace p2 := (Ext.cell hSw hb).trans p2; replace p3 := (Ext.cell hSw hb).trans p3; replace p4 := (Ext.cell hSw hb).trans p4; replace p5 := (Ext.cell hSw hb).trans p5; replace p6 := (Ext.cell hSw hb).trans p6; replace p7 := (Ext.cell hSw hb).trans p7; replace p8 := (Ext.cell hSw hb).trans p8; go_simp; (try with_reducible rfl)) hHeld ?_
    try simp only [Act.put, aT, aZ, aS]
    refine tk (i := 3) rfl (by kernel_rfl) (fun _ _ _ h => h) rfl (fun w9 hSw => by obtain ⟨k0, k1, k2, k3, k4, k5, k6, k7, k8⟩ := L1; obtain ⟨p0, p1, p2, p3, p4, p5, p6, p7, p8⟩ := L2; replace k0 := (Ext.cell hSw hb).trans k0; replace k1 := (Ext.cell hSw hb).trans k1; replace k2 := (Ext.cell hSw hb).trans k2; replace k3 := (Ext.cell hSw hb).trans k3; replace k4 := (Ext.cell hSw hb).trans k4; replace k5 := (Ext.cell hSw hb).trans k5; replace k6 := (Ext.cell hSw hb).trans k6; replace k7 := (Ext.cell hSw hb).trans k7; replace k8 := (Ext.cell hSw hb).trans k8; replace p0 := (Ext.cell hSw hb).trans p0; replace p1 := (Ext.cell hSw hb).trans p1; replace p2 := (Ext.cell hSw hb).trans p2; replace p3 := (Ext.cell hSw hb).trans p3; replace p4 := (Ext.cell hSw hb).trans p4; replace p5 := (Ext.cell hSw hb).trans p5; replace p6 := (Ext.cell hSw hb).trans p6; replace p7 := (Ext.cell hSw hb).trans p7; replace p8 := (Ext.cell hSw hb).trans p8; go_simp; (try with_reducible rfl)) hHeld ?_
    try simp only [Act.put, aT, aZ, aS]
    refine tk (i := 4) rfl (by kernel_rfl) (fun _ _ _ h => h) rfl (fun w9 hSw => by obtain ⟨k0, k1, k2, k3, k4, k5, k6, k7, k8⟩ := L1; obtain ⟨p0, p1, p2, p3, p4, p5, p6, p7, p8⟩ := L2; replace k0 := (Ext.cell hSw hb).trans k0; replace k1 := (Ext.cell hSw hb).trans k1; replace k2 := (Ext.cell hSw hb).trans k2; replace k3 := (Ext.cell hSw hb).trans k3; replace k4 := (Ext.cell hSw hb).trans k4; replace k5 := (Ext.cell hSw hb).trans k5; replace k6 := (Ext.cell hSw hb).trans k6; replace k7 := (Ext.cell hSw hb).trans k7; replace k8 := (Ext.cell hSw hb).trans k8; replace p0 := (Ext.cell hSw hb).trans p0; replace p1 := (Ext.cell hSw hb).trans p1; replace p2 := (Ext.cell hSw hb).trans p2; replace p3 := (Ext.cell hSw hb).trans p3; replace p4 := (Ext.cell hSw hb).trans p4; replace p5 := (Ext.cell hSw hb).trans p5; replace p6 := (Ext.cell hSw hb).trans p6; replace p7 := (Ext.cell hSw hb).trans p7; replace p8 := (Ext.cell hSw hb).trans p8; go_simp; (try with_reducible rfl)) hHeld ?_
    try simp only [Act.put, aT, aZ, aS]
    refine tk (i := 5) rfl (by kernel_rfl) (fun _ _ _ h => h) rfl (fun w9 hSw => by obtain ⟨k0, k1, k2, k3, k4, k5, k6, k7, k8⟩ := L1; obtain ⟨p0, p1, p2, p3, p4, p5, p6, p7, p8⟩ := L2; replace k0 := (Ext.cell hSw hb).trans k0; replace k1 := (Ext.cell hSw hb).trans k1; replace k2 := (Ext.cell hSw hb).trans k2; replace k3 := (Ext.cell hSw hb).trans k3; replace k4 := (Ext.cell hSw hb).trans k4; replace k5 := (Ext.cell hSw hb).trans k5; replace k6 := (Ext.cell hSw hb).trans k6; replace k7 := (Ext.cell hSw hb).trans k7; replace k8 := (Ext.cell hSw hb).trans k8; replace p0 := (Ext.cell hSw hb).trans p0; replace p1 := (Ext.cell hSw hb).trans p1; replace p2 := (Ext.cell hSw hb).trans p2; replace p3 := (Ext.cell hSw hb).trans p3; replace p4 := (Ext.cell hSw hb).trans p4; replace p5 := (Ext.cell hSw hb).trans p5; replace p6 := (Ext.cell hSw hb).trans p6; replace p7 := (Ext.cell hSw hb).trans p7; replace p8 := (Ext.cell hSw hb).trans p8; go_simp; (try with_reducible rfl)) hHeld ?_
    try simp only [Act.put, aT, aZ, aS]
    refine tk (i := 6) rfl (by kernel_rfl) (fun _ _ _ h => h) rfl (fun w9 hSw => by obtain ⟨k0, k1, k2, k3, k4, k5, k6, k7, k8⟩ := L1; obtain ⟨p0, p1, p2, p3, p4, p5, p6, p7, p8⟩ := L2; replace k0 := (Ext.cell hSw hb).trans k0; replace k1 := (Ext.cell hSw hb).trans k1; replace k2 := (Ext.cell hSw hb).trans k2; replace k3 := (Ext.cell hSw hb).trans k3; replace k4 := (Ext.cell hSw hb).trans k4; replace k5 := (Ext.cell hSw hb).trans k5; replace k6 := (Ext.cell hSw hb).trans k6; replace k7 := (Ext.cell hSw hb).trans k7; replace k8 := (Ext.cell hSw hb).trans k8; replace p0 := (Ext.cell hSw hb).trans p0; replace p1 := (Ext.cell hSw hb).trans p1; replace p2 := (Ext.cell hSw hb).trans p2; replace p3 := (Ext.cell hSw hb).trans p3; replace p4 := (Ext.cell hSw hb).trans p4; replace p5 := (Ext.cell hSw hb).trans p5; replace p6 := (Ext.cell hSw hb).trans p6; replace p7 := (Ext.cell hSw hb).trans p7; replace p8 := (Ext.cell hSw hb).trans p8; go_simp; (try with_reducible rfl)) hHeld ?_
    try simp only [Act.put, aT, aZ, aS]
    refine tk (i := 7) rfl (by kernel_rfl) (fun _ _ _ h => h) rfl (fun w9 hSw => by obtain ⟨k0, k1, k2, k3, k4, k5, k6, k7, k8⟩ := L1; obtain ⟨p0, p1, p2, p3, p4, p5, p6, p7, p8⟩ := L2; replace k0 := (Ext.cell hSw hb).trans k0; replace k1 := (Ext.cell hSw hb).trans k1; replace k2 := (Ext.cell hSw hb).trans k2; replace k3 := (Ext.cell hSw hb).trans k3; replace k4 := (Ext.cell hSw hb).trans k4; replace k5 := (Ext.cell hSw hb).trans k5; replace k6 := (Ext.cell hSw hb).trans k6; replace k7 := (Ext.cell hSw hb).trans k7; replace k8 := (Ext.cell hSw hb).trans k8; replace p0 := (Ext.cell hSw hb).trans p0; replace p1 := (Ext.cell hSw hb).trans p1; replace p2 := (Ext.cell hSw hb).trans p2; replace p3 := (Ext.cell hSw hb).trans p3; replace p4 := (Ext.cell hSw hb).trans p4; replace p5 := (Ext.cell hSw hb).trans p5; replace p6 := (Ext.cell hSw hb).trans p6; replace p7 := (Ext.cell hSw hb).trans p7; replace p8 := (Ext.cell hSw hb).trans p8; go_simp; (try with_reducible rfl)) hHeld ?_
    try simp only [Act.put, aT, aZ, aS]
    refine tk (i := 8) rfl (by kernel_rfl) (fun _ _ _ h => h) rfl (fun w9 hSw => by obtain ⟨k0, k1, k2, k3, k4, k5, k6, k7, k8⟩ := L1; obtain ⟨p0, p1, p2, p3, p4, p5, p6, p7, p8⟩ := L2; replace k0 := (Ext.cell hSw hb).trans k0; replace k1 := (Ext.cell hSw hb).trans k1; replace k2 := (Ext.cell hSw hb).trans k2; replace k3 := (Ext.cell hSw hb).trans k3; replace k4 := (Ext.cell hSw hb).trans k4; replace k5 := (Ext.cell hSw hb).trans k5; replace k6 := (Ext.cell hSw hb).trans k6; replace k7 := (Ext.cell hSw hb).trans k7; replace k8 := (Ext.cell hSw hb).trans k8; replace p0 := (Ext.cell hSw hb).trans p0; replace p1 := (Ext.cell hSw hb).trans p1; replace p2 := (Ext.cell hSw hb).trans p2; replace p3 := (Ext.cell hSw hb).trans p3; replace p4 := (Ext.cell hSw hb).trans p4; replace p5 := (Ext.cell hSw hb).trans p5; replace p6 := (Ext.cell hSw hb).trans p6; replace p7 := (Ext.cell hSw hb).trans p7; replace p8 := (Ext.cell hSw hb).trans p8; go_simp; (try with_reducible rfl)) hHeld ?_
    try simp only [Act.put, aT, aZ, aS]
    refine wpAnyH_ready (rs := [9]) (by kernel_rfl) (by simp) (AllReadyH.cons (o := ?om21) ?im21 (fun K hK => ?_) AllReadyH.nil)
    case im21 => simp only [List.getElem?_toArray, List.getElem?_cons_succ, List.getElem?_cons_zero]; rfl
    rw [if_pos (by rfl)]
    go_simp
    go_at_call 56
    (with_reducible refine (C).mono ?_)
    rintro e wz ⟨rfl, xz⟩
    refine hK.out _ _ (Ext.trans hHeld xz) (fun hHeld => ?_)
    clear hK K
    try simp only [aT, aZ, aS]
    refine tk (i := 10) rfl (by kernel_rfl) (fun _ _ _ h => h) rfl (fun w9 hSw => by go_simp; (try with_reducible rfl)) hHeld ?_
    try simp only [Act.put, aT, aZ, aS]
    refine wpAnyH_done (by kernel_rfl) ?_ _
    go_wp2_with fail
    go_ret
    exact ⟨retB HV.out.symm, hHeld⟩
  ·have hd := hg.out
   have h1 : risesK ((l.drop k).map PtD.k) = true := by
    have : (l.drop k).length ≤ 1 := by rw [List.length_drop]; omega
    match l.drop k, this with
    | [], _ => rfl
    | [x], _ => rfl
   rw [h1] at hd
   have hk3 : (l.length : Int) ≤ (k : Int) + 1 := by omega
   replace hd := Lib.hid hd
   clear hk hg h1 hA hlt
   go_wp2_with fail
   go_ret
   exact ⟨retB hd.out, xr⟩
end Go.Proofs.YtjjnmefihdjglaaGreat
