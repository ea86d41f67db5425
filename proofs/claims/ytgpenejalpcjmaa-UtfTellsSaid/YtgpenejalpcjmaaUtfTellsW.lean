/- The walk of the law UtfTells. -/
import Derived.Test.YtgpenejalpcjmaaUtfK
import Derived.Test.YtgpenejalpcjmaaLawUtf
namespace Go.Proofs.Ytgpenejalpcjmaa
open Go.RowKit

theorem nextS_pos (s : ByteArray) (i : Int) : (nextS s i).2.2 = decide (0 < ((nextS s i).2.1 : Int)) := by
  unfold nextS
  split
  · rfl
  · split
    · rename_i h
      have := (frontL_bounds ((bs s).drop i.toNat)).2.2 h
      rw [h]; symm; simp; omega
    · rfl
theorem encS_empty (r : Int) : (encS r).toList.isEmpty = !isScalar r := by
  rw [ByteArray.toList_eq]
  unfold encS
  cases h : isScalar r with
  | false => rfl
  | true =>
    simp only [if_true]
    unfold ofL encL
    (repeat' split) <;> rfl
/-- The five places that are asked. -/
def placeOf (s : ByteArray) (i : Int) (k : Nat) : Int := if k = 0 then i else if k = 1 then 0 else if k = 2 then s.size / 2 else if k = 3 then s.size - 1 else s.size
theorem rNext_at (s : ByteArray) (i : Int) (r : Nat × Nat × Bool) (h : nextS s i = r) (hs : s.size ≤ 9223372036854775807) (w : World) :
    Calls Try.prog 10 #[.string s, .int .i64 i] w fun e w' => e = .returned (.tuple #[.int .i32 r.1, .int .i64 r.2.1]) ∧ Ext w w' := by
  have := rNext_any s i w hs; rwa [h] at this

set_option maxHeartbeats 2000000 in
set_option maxRecDepth 100000 in
theorem Tells_walk (s : ByteArray) (i r : Int) (w : World) (hs : s.size ≤ 9223372036854775807) (h0 : -2147483648 ≤ r) (h1 : r ≤ 2147483647) :
    Calls Try.prog 3 #[.string s, .int .i64 i, .int .i32 r] w fun e w' => e = .returned (.bool true) ∧ Ext w w' := by
  by_cases hl : 300 < s.size
  · go_enter Try.func3, Try.ntmps3
    go_wp2_with fail
    refine (known_any _).mono ?_
    rintro e w1 ⟨rfl, x1⟩
    go_wp2_with fail
    go_ret
    exact ⟨rfl, x1⟩
  · go_enter Try.func3, Try.ntmps3
    go_wp2_with fail
    refine (known_any _).mono ?_
    rintro e w1 ⟨rfl, x1⟩
    go_wp2_with fail
    obtain ⟨w2, hw2⟩ : ∃ w2, w2 = w1.alloc (.cells #[.int .i64 i, .int .i64 0, .int .i64 (s.size / 2), .int .i64 (s.size - 1), .int .i64 s.size] 3) := ⟨_, rfl⟩
    have x2 : Ext w w2 := by rw [hw2]; exact x1.alloc _
    have hc : ∀ k, k < 5 → w2.cell? ⟨w1.heap.size, k, none⟩ = some (.int .i64 (placeOf s i k)) := by
      intro k hk
      rw [hw2]
      unfold World.cell?
      rw [heap_alloc_new w1]
      obtain rfl | rfl | rfl | rfl | rfl : k = 0 ∨ k = 1 ∨ k = 2 ∨ k = 3 ∨ k = 4 := by omega
      all_goals rfl
    have hB : w1.heap.size < w2.heap.size := by rw [hw2, World.size_alloc]; omega
    rw [← hw2]
    clear hw2
    have HC := Lib.hid hc
    clear hc
    go_loopw [32] (fun k wr => ∃ k' : Nat, k' ≤ 5 ∧ k = .int .i64 k' ∧ Ext w2 wr) (fun k _ => 5 - (intOf k).toNat)
    case atStart => exact ⟨0, by omega, rfl, Ext.refl _⟩
    case round =>
      obtain ⟨k', hk, rfl, x3⟩ := hrel
      by_cases hlt : k' < 5
      · have hcell : wr.cell? ⟨w1.heap.size, k', none⟩ = some (.int .i64 (placeOf s i k')) := by
          rw [x3.cell hB]; exact HC.out k' hlt
        have hp := nextS_pos s (placeOf s i k')
        obtain ⟨⟨a, n, b⟩, hq⟩ : ∃ q, nextS s (placeOf s i k') = q := ⟨_, rfl⟩
        rw [hq] at hp
        obtain rfl : b = decide (0 < (n : Int)) := by simpa using hp
        clear hp
        have n1 := Next_at s _ _ hq hs
        have n2 := rNext_at s _ _ hq hs
        clear hq
        go_wp2_with fail
        refine (n1 _).mono ?_
        rintro e w4 ⟨rfl, x4⟩
        go_wp2_with fail
        refine (n2 _).mono ?_
        rintro e w5 ⟨rfl, x5⟩
        clear n1 n2
        go_wp2_with fail
        go_roundw
        case rel => exact ⟨k' + 1, by omega, by go_num, x3.trans (x4.trans x5)⟩
        case measure => simp [intOf]; omega
      · clear HC
        go_wp2_with fail
        refine (Encode_any r _).mono ?_
        rintro e w4 ⟨rfl, x4⟩
        go_wp2_with fail
        refine (Bytes_any r _ h0 h1).mono ?_
        rintro e w5 ⟨rfl, x5⟩
        have he := encS_empty r
        go_wp2_with fail
        refine (Bad_any s _ hs).mono ?_
        rintro e w6 ⟨rfl, x6⟩
        go_wp2_with fail
        refine (rBad_any s _ hs).mono ?_
        rintro e w7 ⟨rfl, x7⟩
        go_wp2_with fail
        refine (Count_any s _ hs).mono ?_
        rintro e w8 ⟨rfl, x8⟩
        go_wp2_with fail
        refine (rCount_any s _ hs).mono ?_
        rintro e w9 ⟨rfl, x9⟩
        go_wp2_with fail
        go_ret
        exact ⟨rfl, x2.trans (x3.trans (x4.trans (x5.trans (x6.trans (x7.trans (x8.trans x9))))))⟩
end Go.Proofs.Ytgpenejalpcjmaa
