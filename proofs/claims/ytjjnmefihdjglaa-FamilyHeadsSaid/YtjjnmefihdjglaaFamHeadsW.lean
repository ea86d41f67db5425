/- The law FamilyHeads, behind what is known: the walk. -/
import Derived.Test.YtjjnmefihdjglaaFamD
import Derived.Test.YtjjnmefihdjglaaGD
import Derived.Test.YtjjnmefihdjglaaGA
namespace Go.Proofs.Ytjjnmefihdjglaa
open Go.RowKit

theorem famGood_none (nm : ByteArray) (k : Int) (un he : ByteArray) (g : Bool) (hg : (nameB nm && (!(decide (k < 0 ∨ 4 < k)) && (valueB un && valueB he))) = g) (w : World) (hn : nm.size ≤ 9223372036854775807) (hu : un.size ≤ 9223372036854775807) (hh : he.size ≤ 9223372036854775807) :
    Calls Try.prog 18 #[.agg #[.string nm, .int .i64 k, .string un, .string he, .slice none 0 0]] w fun e w' => e = .returned (.bool g) ∧ Ext w w' := by
  have := famGood_any nm k un he none 0 [] w (by simp) ⟨fun h => absurd h (by simp), by simp⟩ hn hu hh
  rw [show goodFam nm k un he [] = g from by unfold goodFam; rw [hg]; simp [risesK]] at this
  exact this
/-- 61 noughts. -/
def L61 : ByteArray := strOfNums (List.replicate 61 0)
theorem mk61 (w : World) : (Instr.makeSlice 50 (.int .i64 61) (.int .i64 61)).run Try.prog w = .ok (.slice (some ⟨w.heap.size, 0, none⟩) 61 61) (w.alloc (.cells (digC (List.replicate 61 0)).toArray 5)) := mk_row 61 (by omega) w
theorem cv61 (w : World) : (convert 50 9 (.slice (some ⟨w.heap.size, 0, none⟩) 61 61)).run Try.prog (w.alloc (.cells (digC (List.replicate 61 0)).toArray 5)) = .ok (.string L61) (w.alloc (.cells (digC (List.replicate 61 0)).toArray 5)) := conv_new w (List.replicate 61 0) 61
theorem two_ok : ∀ n : Nat, n < 256 → nameB (⟨#[97]⟩ ++ strOfNums [(n : Int)]) = (decide (32 ≤ n) && decide (n < 127)) := by decide +kernel

set_option maxHeartbeats 20000000 in
set_option maxRecDepth 100000 in
theorem FamilyHeads_of (K : ∀ w, Calls Try.prog 8 #[] w fun e w' => e = .returned (.bool true) ∧ Ext w w') (kind how n : Int) (w : World) (hk : 0 ≤ kind ∧ kind ≤ 255) (hh : 0 ≤ how ∧ how ≤ 255) (hn : 0 ≤ n ∧ n ≤ 255) :
    Calls Try.prog 6 #[.int .u8 kind, .int .u8 how, .int .u8 n] w fun e w' => e = .returned (.bool true) ∧ Ext w w' := by
  have M := mk61
  have V := cv61
  generalize (digC (List.replicate 61 0)).toArray = Z at *
  go_enter Try.func6, Try.ntmps6
  go_wp2_with fail
  (with_reducible refine (K _).mono ?_)
  rintro e w1 ⟨rfl, x1⟩
  obtain ⟨k, hkk⟩ : ∃ k, kind % 5 = k := ⟨_, rfl⟩
  have hk5 : 0 ≤ k ∧ k < 5 := by omega
  go_wp2_with fail
  rw [hkk]
  have hg0 : (nameB (⟨#[97]⟩ : ByteArray) && (!(decide (k < 0 ∨ 4 < k)) && (valueB (⟨#[98]⟩ : ByteArray) && valueB (⟨#[99]⟩ : ByteArray)))) = true := by
    rw [decide_eq_false (by omega)]; decide +kernel
  (with_reducible refine (famGood_none _ _ _ _ _ hg0 _ (by decide) (by decide) (by decide)).mono ?_)
  rintro e w2 ⟨rfl, x2⟩
  have g1 : FamIn w1.heap.size (⟨#[97]⟩ : ByteArray) k (⟨#[98]⟩ : ByteArray) (⟨#[99]⟩ : ByteArray) (.slice none 0 0) w2 := FamIn.ext (heap_last _ _) x2
  have hx : Ext w w2 := (x1.alloc _).trans x2
  have lb : w1.heap.size < w2.heap.size := (Array.getElem?_eq_some_iff.1 g1).1
  obtain ⟨c0, c1, c2, c3, c4⟩ := g1.cells
  have f0 : w2.frozen? ⟨w1.heap.size, 0, none⟩ = false := Lib.frozen_of_heap g1 0
  have f1 : w2.frozen? ⟨w1.heap.size, 1, none⟩ = false := Lib.frozen_of_heap g1 1
  have f2 : w2.frozen? ⟨w1.heap.size, 2, none⟩ = false := Lib.frozen_of_heap g1 2
  have f3 : w2.frozen? ⟨w1.heap.size, 3, none⟩ = false := Lib.frozen_of_heap g1 3
  have lw : w.heap.size ≤ w1.heap.size := x1.size
  clear x2 hg0 g1
  by_cases q0 : how % 7 = 0
  · have hg : (nameB (⟨#[]⟩ : ByteArray) && (!(decide (k < 0 ∨ 4 < k)) && (valueB (⟨#[98]⟩ : ByteArray) && valueB (⟨#[99]⟩ : ByteArray)))) = false := by
      rw [decide_eq_false (by omega)]; decide +kernel
    have G := fun W => famGood_none (⟨#[]⟩ : ByteArray) k (⟨#[98]⟩ : ByteArray) (⟨#[99]⟩ : ByteArray) false hg W (by decide +kernel) (by decide +kernel) (by decide +kernel)
    clear hg
    go_wp2_with fail
    (with_reducible refine (G _).mono ?_)
    rintro e w9 ⟨rfl, x9⟩
    go_wp2_with fail
    go_ret
    exact ⟨by first | rfl | (simp; done), (Ext.alloc (ext_setCell hx (by omega) _) _).trans x9⟩
  by_cases q3 : how % 7 = 3
  · have hg : (nameB (⟨#[97]⟩ : ByteArray) && (!(decide (k < 0 ∨ 4 < k)) && (valueB L61 && valueB (⟨#[99]⟩ : ByteArray)))) = false := by
      rw [decide_eq_false (by omega)]; decide +kernel
    have G := fun W => famGood_none (⟨#[97]⟩ : ByteArray) k L61 (⟨#[99]⟩ : ByteArray) false hg W (by decide +kernel) (by decide +kernel) (by decide +kernel)
    clear hg
    go_wp2_with fail
    (with_reducible refine (G _).mono ?_)
    rintro e w9 ⟨rfl, x9⟩
    go_wp2_with fail
    go_ret
    exact ⟨by first | rfl | (simp; done), (Ext.alloc (ext_setCell hx (by omega) _) _).trans x9⟩
  by_cases q2 : how % 7 = 2
  · have hg : (nameB (⟨#[97]⟩ : ByteArray) && (!(decide ((5 + n) < 0 ∨ 4 < (5 + n))) && (valueB (⟨#[98]⟩ : ByteArray) && valueB (⟨#[99]⟩ : ByteArray)))) = false := by
      rw [decide_eq_true (by omega)]; simp
    have G := fun W => famGood_none (⟨#[97]⟩ : ByteArray) (5 + n) (⟨#[98]⟩ : ByteArray) (⟨#[99]⟩ : ByteArray) false hg W (by decide +kernel) (by decide +kernel) (by decide +kernel)
    clear hg
    have wn : IntKind.i64.wrap n = n := IntWalk.i64_in _ (by omega)
    have wn2 : IntKind.i64.wrap (5 + n) = 5 + n := IntWalk.i64_in _ (by omega)
    go_wp2_with fail
    (with_reducible refine (G _).mono ?_)
    rintro e w9 ⟨rfl, x9⟩
    go_wp2_with fail
    go_ret
    exact ⟨by first | rfl | (simp; done), (Ext.alloc (ext_setCell hx (by omega) _) _).trans x9⟩
  by_cases q5 : how % 7 = 5
  · have hg : (nameB (⟨#[97]⟩ : ByteArray) && (!(decide (k < 0 ∨ 4 < k)) && (valueB (⟨#[98]⟩ : ByteArray) && valueB (⟨#[226, 130]⟩ : ByteArray)))) = false := by
      rw [decide_eq_false (by omega)]; decide +kernel
    have G := fun W => famGood_none (⟨#[97]⟩ : ByteArray) k (⟨#[98]⟩ : ByteArray) (⟨#[226, 130]⟩ : ByteArray) false hg W (by decide +kernel) (by decide +kernel) (by decide +kernel)
    clear hg
    go_wp2_with fail
    (with_reducible refine (G _).mono ?_)
    rintro e w9 ⟨rfl, x9⟩
    go_wp2_with fail
    go_ret
    exact ⟨by first | rfl | (simp; done), (Ext.alloc (ext_setCell hx (by omega) _) _).trans x9⟩
  by_cases q4 : how % 7 = 4
  · have hg : (nameB (⟨#[97]⟩ : ByteArray) && (!(decide (k < 0 ∨ 4 < k)) && (valueB (⟨#[98]⟩ : ByteArray) && valueB (L61.extract 0 60)))) = true := by
      rw [decide_eq_false (by omega)]; decide +kernel
    have G := fun W => famGood_none (⟨#[97]⟩ : ByteArray) k (⟨#[98]⟩ : ByteArray) (L61.extract 0 60) true hg W (by decide +kernel) (by decide +kernel) (by decide +kernel)
    clear hg
    have z61 : L61.size = 61 := by decide +kernel
    go_wp2_with fail
    (with_reducible refine (G _).mono ?_)
    rintro e w9 ⟨rfl, x9⟩
    go_wp2_with fail
    go_ret
    exact ⟨by first | rfl | (simp; done), (Ext.alloc (ext_setCell hx (by omega) _) _).trans x9⟩
  by_cases q6 : how % 7 = 6
  · have hg : (nameB (⟨#[97]⟩ : ByteArray) && (!(decide ((-1 - n) < 0 ∨ 4 < (-1 - n))) && (valueB (⟨#[98]⟩ : ByteArray) && valueB (⟨#[99]⟩ : ByteArray)))) = false := by
      rw [decide_eq_true (by omega)]; simp
    have G := fun W => famGood_none (⟨#[97]⟩ : ByteArray) (-1 - n) (⟨#[98]⟩ : ByteArray) (⟨#[99]⟩ : ByteArray) false hg W (by decide +kernel) (by decide +kernel) (by decide +kernel)
    clear hg
    have wn : IntKind.i64.wrap n = n := IntWalk.i64_in _ (by omega)
    have wn2 : IntKind.i64.wrap (-1 - n) = -1 - n := IntWalk.i64_in _ (by omega)
    go_wp2_with fail
    (with_reducible refine (G _).mono ?_)
    rintro e w9 ⟨rfl, x9⟩
    go_wp2_with fail
    go_ret
    exact ⟨by first | rfl | (simp; done), (Ext.alloc (ext_setCell hx (by omega) _) _).trans x9⟩
  have q1 : how % 7 = 1 := by omega
  obtain ⟨m, rfl⟩ : ∃ m : Nat, n = (m : Int) := ⟨n.toNat, by omega⟩
  have hg : (nameB (⟨#[97]⟩ ++ strOfNums [(m : Int)]) && (!(decide (k < 0 ∨ 4 < k)) && (valueB (⟨#[98]⟩ : ByteArray) && valueB (⟨#[99]⟩ : ByteArray)))) = (decide (32 ≤ m) && decide (m < 127)) := by
    rw [decide_eq_false (by omega), two_ok m (by omega), show valueB (⟨#[98]⟩ : ByteArray) = true from by decide +kernel, show valueB (⟨#[99]⟩ : ByteArray) = true from by decide +kernel]; simp
  have hz : (strOfNums [(m : Int)]).size = 1 := rfl
  obtain ⟨ST, hST⟩ : ∃ s, strOfNums [(m : Int)] = s := ⟨_, rfl⟩
  have hz2 : ((⟨#[97]⟩ : ByteArray) ++ ST).size = 2 := by rw [← hST]; rfl
  have G := fun W => famGood_none (⟨#[97]⟩ ++ strOfNums [(m : Int)]) k (⟨#[98]⟩ : ByteArray) (⟨#[99]⟩ : ByteArray) _ hg W (by rw [hST, hz2]; omega) (by decide +kernel) (by decide +kernel)
  have CV : (convert 50 9 (.slice (some ⟨w2.heap.size + 1, 0, none⟩) 1 1)).run Try.prog ((w2.alloc (.cells Z 5)).alloc (.cells #[.int .u8 (m : Int)] 5)) = .ok (.string (strOfNums [(m : Int)])) ((w2.alloc (.cells Z 5)).alloc (.cells #[.int .u8 (m : Int)] 5)) := by
    have := conv_new (w2.alloc (.cells Z 5)) [(m : Int)] 1
    rw [heap_size_alloc] at this
    exact this
  have wm : IntKind.u8.wrap (m : Int) = (m : Int) := by rw [IntKind.wrap_u8]; omega
  rw [hST] at G hz
  rw [hST] at CV
  have AD : ∀ w, (Op.stringOp .add ⟨#[97]⟩ ST).run Try.prog w = .ok (.string (⟨#[97]⟩ ++ ST)) w := fun w => run_string_add_sum w _ _ (by rw [hz]; decide)
  clear hg hST
  by_cases l1 : 32 ≤ m
  · by_cases l2 : m < 127
    · rw [decide_eq_true l1, decide_eq_true l2, Bool.true_and] at G
      have l3 : (32 : Int) ≤ (m : Int) := by omega
      have l4 : (m : Int) < 127 := by omega
      go_wp2_with fail
      (with_reducible refine (G _).mono ?_)
      rintro e w9 ⟨rfl, x9⟩
      go_wp2_with fail
      go_ret
      exact ⟨by first | rfl | (simp; done) | (simp; omega), (((ext_setCell hx (by omega) _).alloc _).alloc _).trans x9⟩
    · rw [decide_eq_false l2, Bool.and_false] at G
      have l3 : (32 : Int) ≤ (m : Int) := by omega
      have l4 : ¬ (m : Int) < 127 := by omega
      go_wp2_with fail
      (with_reducible refine (G _).mono ?_)
      rintro e w9 ⟨rfl, x9⟩
      go_wp2_with fail
      go_ret
      exact ⟨by first | rfl | (simp; done) | (simp; omega), (((ext_setCell hx (by omega) _).alloc _).alloc _).trans x9⟩
  · rw [decide_eq_false l1, Bool.false_and] at G
    have l3 : ¬ (32 : Int) ≤ (m : Int) := by omega
    go_wp2_with fail
    (with_reducible refine (G _).mono ?_)
    rintro e w9 ⟨rfl, x9⟩
    go_wp2_with fail
    go_ret
    exact ⟨by first | rfl | (simp; done) | (simp; omega), (((ext_setCell hx (by omega) _).alloc _).alloc _).trans x9⟩
end Go.Proofs.Ytjjnmefihdjglaa
