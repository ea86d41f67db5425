import Derived.Test.YtjjnmefihdjglaaGreatPtG
namespace Go.Proofs.YtjjnmefihdjglaaGreat
open Go.RowKit
def wordOf (k : Int) : ByteArray := if k = 0 then ⟨#[117, 110, 107, 110, 111, 119, 110]⟩ else if k = 1 then ⟨#[103, 97, 117, 103, 101]⟩ else if k = 2 then ⟨#[99, 111, 117, 110, 116, 101, 114]⟩ else if k = 3 then ⟨#[104, 105, 115, 116, 111, 103, 114, 97, 109]⟩ else if k = 4 then ⟨#[115, 117, 109, 109, 97, 114, 121]⟩ else ⟨#[]⟩
def kindOf (s : ByteArray) : Int × Bool := if cmpS ⟨#[117, 110, 107, 110, 111, 119, 110]⟩ s = 0 then (0, true) else if cmpS ⟨#[103, 97, 117, 103, 101]⟩ s = 0 then (1, true) else if cmpS ⟨#[99, 111, 117, 110, 116, 101, 114]⟩ s = 0 then (2, true) else if cmpS ⟨#[104, 105, 115, 116, 111, 103, 114, 97, 109]⟩ s = 0 then (3, true) else if cmpS ⟨#[115, 117, 109, 109, 97, 114, 121]⟩ s = 0 then (4, true) else (0, false)
set_option maxRecDepth 100000 in
theorem kinds_any (w : World) :
  Calls Tryz.prog 107 #[] w fun e w' => e = .returned (.agg #[.string ⟨#[117, 110, 107, 110, 111, 119, 110]⟩, .string ⟨#[103, 97, 117, 103, 101]⟩, .string ⟨#[99, 111, 117, 110, 116, 101, 114]⟩, .string ⟨#[104, 105, 115, 116, 111, 103, 114, 97, 109]⟩, .string ⟨#[115, 117, 109, 109, 97, 114, 121]⟩]) ∧ Ext w w' := by
 go_enter Tryz.func107, Tryz.ntmps107
 go_wp2_with fail
 exact bodyPost_ret (v := .agg #[.string ⟨#[117, 110, 107, 110, 111, 119, 110]⟩, .string ⟨#[103, 97, 117, 103, 101]⟩, .string ⟨#[99, 111, 117, 110, 116, 101, 114]⟩, .string ⟨#[104, 105, 115, 116, 111, 103, 114, 97, 109]⟩, .string ⟨#[115, 117, 109, 109, 97, 114, 121]⟩]) (by simp [results, Tryz.results107, go_sem]) rfl ⟨rfl, (Ext.refl _).alloc _⟩
set_option maxHeartbeats 2000000 in
set_option maxRecDepth 100000 in
theorem Typed_any (k : Int) (w : World) :
  Calls Tryz.prog 76 #[.int .i64 k] w fun e w' => e = .returned (.string (wordOf k)) ∧ Ext w w' := by
 unfold wordOf
 by_cases h0 : k = 0
 ·subst h0
  rw [if_pos rfl]
  go_enter Tryz.func76, Tryz.ntmps76
  go_wp2_with fail
  (with_reducible refine (kinds_any _).mono ?_)
  rintro e w1 ⟨rfl, x1⟩
  go_wp2_with fail
  go_ret
  exact ⟨rfl, x1.alloc _⟩
 ·rw [if_neg h0]
  by_cases h1 : k = 1
  ·subst h1
   rw [if_pos rfl]
   go_enter Tryz.func76, Tryz.ntmps76
   go_wp2_with fail
   (with_reducible refine (kinds_any _).mono ?_)
   rintro e w1 ⟨rfl, x1⟩
   go_wp2_with fail
   go_ret
   exact ⟨rfl, x1.alloc _⟩
  ·rw [if_neg h1]
   by_cases h2 : k = 2
   ·subst h2
    rw [if_pos rfl]
    go_enter Tryz.func76, Tryz.ntmps76
    go_wp2_with fail
    (with_reducible refine (kinds_any _).mono ?_)
    rintro e w1 ⟨rfl, x1⟩
    go_wp2_with fail
    go_ret
    exact ⟨rfl, x1.alloc _⟩
   ·rw [if_neg h2]
    by_cases h3 : k = 3
    ·subst h3
     rw [if_pos rfl]
     go_enter Tryz.func76, Tryz.ntmps76
     go_wp2_with fail
     (with_reducible refine (kinds_any _).mono ?_)
     rintro e w1 ⟨rfl, x1⟩
     go_wp2_with fail
     go_ret
     exact ⟨rfl, x1.alloc _⟩
    ·rw [if_neg h3]
     by_cases h4 : k = 4
     ·subst h4
      rw [if_pos rfl]
      go_enter Tryz.func76, Tryz.ntmps76
      go_wp2_with fail
      (with_reducible refine (kinds_any _).mono ?_)
      rintro e w1 ⟨rfl, x1⟩
      go_wp2_with fail
      go_ret
      exact ⟨rfl, x1.alloc _⟩
     ·rw [if_neg h4]
      by_cases hn : k < 0
      ·go_enter Tryz.func76, Tryz.ntmps76
       go_wp2_with fail
       (with_reducible refine (kinds_any _).mono ?_)
       rintro e w1 ⟨rfl, x1⟩
       go_wp2_with fail
       go_ret
       exact ⟨rfl, x1.alloc _⟩
      ·have h5 : 5 ≤ k := by omega
       go_enter Tryz.func76, Tryz.ntmps76
       go_wp2_with fail
       (with_reducible refine (kinds_any _).mono ?_)
       rintro e w1 ⟨rfl, x1⟩
       go_wp2_with fail
       go_ret
       exact ⟨rfl, x1.alloc _⟩
end Go.Proofs.YtjjnmefihdjglaaGreat
namespace Go.Proofs.YtjjnmefihdjglaaGreat
open Go.RowKit
def tailOf (k r : Int) : ByteArray := if r = 1 then ⟨#[95, 98, 117, 99, 107, 101, 116]⟩ else if r = 3 then ⟨#[95, 99, 111, 117, 110, 116]⟩ else if r = 4 then ⟨#[95, 115, 117, 109]⟩ else if k = 2 then ⟨#[95, 116, 111, 116, 97, 108]⟩ else ⟨#[]⟩
end Go.Proofs.YtjjnmefihdjglaaGreat
namespace Go.Proofs.YtjjnmefihdjglaaGreat
open Go.RowKit
theorem kindOf_word (s : ByteArray) : ((kindOf s).2 = true → wordOf (kindOf s).1 = s) ∧ ((kindOf s).2 = false → (kindOf s).1 = 0) ∧ (-1 ≤ (kindOf s).1 ∧ (kindOf s).1 ≤ 4) := by
 unfold kindOf
 repeat' split
 all_goals first
  | (refine ⟨fun _ => ?_, fun h => (by cases h), by decide⟩; exact (cmpS_zero _ _).1 (by assumption))
  | exact ⟨fun h => (by cases h), fun _ => rfl, by decide⟩
theorem kindOf_wordOf (k : Int) (h0 : 0 ≤ k) (h4 : k ≤ 4) : kindOf (wordOf k) = (k, true) := by
 rcases (show k = 0 ∨ k = 1 ∨ k = 2 ∨ k = 3 ∨ k = 4 from by omega) with rfl | rfl | rfl | rfl | rfl <;> decide
theorem wordOf_none (k : Int) : (wordOf k = ⟨#[]⟩) ↔ (k < 0 ∨ 4 < k) := by
 unfold wordOf
 constructor
 ·intro h
  by_cases h5 : k < 0 ∨ 4 < k
  ·exact h5
  ·exfalso
   rcases (show k = 0 ∨ k = 1 ∨ k = 2 ∨ k = 3 ∨ k = 4 from by omega) with rfl | rfl | rfl | rfl | rfl <;> simp at h
 ·intro h
  rw [if_neg (by omega), if_neg (by omega), if_neg (by omega), if_neg (by omega), if_neg (by omega)]
theorem wordEmpty (k : Int) : (wordOf k).toList.isEmpty = decide (k < 0 ∨ 4 < k) := by
 by_cases h : k < 0 ∨ 4 < k
 ·rw [decide_eq_true h, (wordOf_none k).2 h, ByteArray.toList_eq]; rfl
 ·rw [decide_eq_false h]
  rcases (show k = 0 ∨ k = 1 ∨ k = 2 ∨ k = 3 ∨ k = 4 from by omega) with rfl | rfl | rfl | rfl | rfl <;> (rw [ByteArray.toList_eq]; decide)
end Go.Proofs.YtjjnmefihdjglaaGreat
