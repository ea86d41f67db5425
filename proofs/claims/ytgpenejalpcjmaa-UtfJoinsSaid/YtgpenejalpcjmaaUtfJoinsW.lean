/- The walk of the law UtfJoins. -/
import Derived.Test.YtgpenejalpcjmaaUtfK
import Derived.Test.YtgpenejalpcjmaaLawUtf
namespace Go.Proofs.Ytgpenejalpcjmaa
open Go.RowKit

theorem size_join (a b : ByteArray) : (a ++ b).size = a.size + b.size := by simp

set_option maxHeartbeats 2000000 in
set_option maxRecDepth 100000 in
theorem Joins_good (a b : ByteArray) (w : World) (ha : a.size ≤ 100) (hb : b.size ≤ 100) (m n : Int) (hm : countL (bs a) = m) (hn : countL (bs b) = n) (m0 : 0 ≤ m) (n0 : 0 ≤ n) :
    Calls Try.prog 6 #[.string a, .string b] w fun e w' => e = .returned (.bool true) ∧ Ext w w' := by
  have ma : m ≤ a.size := by rw [← hm, ← length_bs]; exact count_le _
  have nb : n ≤ b.size := by rw [← hn, ← length_bs]; exact count_le _
  have hz := size_join a b
  have ba : badL (bs a) < 0 := by have h := (count_iff (bs a)).2; omega
  have bb : badL (bs b) < 0 := by have h := (count_iff (bs b)).2; omega
  have J := join_good (bs a) (bs b) ba
  have A := Count_at a m hm (by omega)
  have B := Count_at b n hn (by omega)
  have C := Count_at (a ++ b) (m + n) (by rw [bs_append, J.2 bb, hm, hn]) (by omega)
  have D := Bad_at (a ++ b) (-1) (by rw [bs_append, J.1, if_pos bb]) (by omega)
  clear hm hn ba bb J hz
  go_enter Try.func6, Try.ntmps6
  go_wp2_with fail
  refine (known_any _).mono ?_
  rintro e w1 ⟨rfl, x1⟩
  go_wp2_with fail
  refine (A _).mono ?_
  rintro e w2 ⟨rfl, x2⟩
  go_wp2_with fail
  refine (B _).mono ?_
  rintro e w3 ⟨rfl, x3⟩
  go_wp2_with fail
  refine (C _).mono ?_
  rintro e w4 ⟨rfl, x4⟩
  go_wp2_with fail
  refine (D _).mono ?_
  rintro e w5 ⟨rfl, x5⟩
  go_wp2_with fail
  go_ret
  exact ⟨rfl, x1.trans (x2.trans (x3.trans (x4.trans x5)))⟩

set_option maxHeartbeats 2000000 in
set_option maxRecDepth 100000 in
theorem Joins_second (a b : ByteArray) (w : World) (ha : a.size ≤ 100) (hb : b.size ≤ 100) (m : Int) (hm : countL (bs a) = m) (hn : countL (bs b) = -1) (m0 : 0 ≤ m) :
    Calls Try.prog 6 #[.string a, .string b] w fun e w' => e = .returned (.bool true) ∧ Ext w w' := by
  have ma : m ≤ a.size := by rw [← hm, ← length_bs]; exact count_le _
  have hz := size_join a b
  have ba : badL (bs a) < 0 := by have h := (count_iff (bs a)).2; omega
  have bb : 0 ≤ badL (bs b) := by have h := (count_iff (bs b)).1; omega
  have J := join_good (bs a) (bs b) ba
  obtain ⟨k, hk⟩ : ∃ k, badL (bs b) = k := ⟨_, rfl⟩
  have kr := (badL_range (bs b)).2
  rw [length_bs, hk] at kr
  rw [hk] at bb
  have A := Count_at a m hm (by omega)
  have B := Count_at b (-1) hn (by omega)
  have C := Bad_at (a ++ b) (a.size + k) (by rw [bs_append, J.1, hk, if_neg (by omega), length_bs]; omega) (by omega)
  have D := Bad_at b k hk (by omega)
  clear hm hn ba J hz hk
  go_enter Try.func6, Try.ntmps6
  go_wp2_with fail
  refine (known_any _).mono ?_
  rintro e w1 ⟨rfl, x1⟩
  go_wp2_with fail
  refine (A _).mono ?_
  rintro e w2 ⟨rfl, x2⟩
  go_wp2_with fail
  refine (B _).mono ?_
  rintro e w3 ⟨rfl, x3⟩
  go_wp2_with fail
  refine (C _).mono ?_
  rintro e w4 ⟨rfl, x4⟩
  go_wp2_with fail
  refine (D _).mono ?_
  rintro e w5 ⟨rfl, x5⟩
  go_wp2_with fail
  go_ret
  exact ⟨rfl, x1.trans (x2.trans (x3.trans (x4.trans x5)))⟩

set_option maxHeartbeats 2000000 in
set_option maxRecDepth 100000 in
theorem Joins_first (a b : ByteArray) (w : World) (ha : a.size ≤ 100) (hb : b.size ≤ 100) (n : Int) (hm : countL (bs a) = -1) (hn : countL (bs b) = n) :
    Calls Try.prog 6 #[.string a, .string b] w fun e w' => e = .returned (.bool true) ∧ Ext w w' := by
  have nb := count_range (bs b)
  have nb' := count_le (bs b)
  rw [hn] at nb nb'
  rw [length_bs] at nb'
  have hz := size_join a b
  have ba : 0 ≤ badL (bs a) := by have h := (count_iff (bs a)).1; omega
  have J := join_open (bs a) (bs b) ba
  obtain ⟨k, hk⟩ : ∃ k, badL (bs a) = k := ⟨_, rfl⟩
  obtain ⟨j, hj⟩ : ∃ j, badL (bs (a ++ b)) = j := ⟨_, rfl⟩
  have kr := (badL_range (bs a)).2
  rw [length_bs, hk] at kr
  rw [hk] at ba
  rw [← bs_append, hk, hj, length_bs] at J
  have A := Count_at a (-1) hm (by omega)
  have B := Count_at b n hn (by omega)
  have C := Bad_at a k hk (by omega)
  have D := Bad_at (a ++ b) j hj (by omega)
  clear hm hn hz hk hj
  rcases J with J | J
  · have J' : (k == (a.size : Int)) = true := by simpa using J
    clear J D
    go_enter Try.func6, Try.ntmps6
    go_wp2_with fail
    refine (known_any _).mono ?_
    rintro e w1 ⟨rfl, x1⟩
    go_wp2_with fail
    refine (A _).mono ?_
    rintro e w2 ⟨rfl, x2⟩
    go_wp2_with fail
    refine (B _).mono ?_
    rintro e w3 ⟨rfl, x3⟩
    go_wp2_with fail
    refine (C _).mono ?_
    rintro e w4 ⟨rfl, x4⟩
    go_wp2_with fail
    refine (C _).mono ?_
    rintro e w5 ⟨rfl, x5⟩
    go_wp2_with fail
    go_ret
    exact ⟨rfl, x1.trans (x2.trans (x3.trans (x4.trans x5)))⟩
  · subst J
    cases he : (j == (a.size : Int))
    all_goals
      go_enter Try.func6, Try.ntmps6
      go_wp2_with fail
      refine (known_any _).mono ?_
      rintro e w1 ⟨rfl, x1⟩
      go_wp2_with fail
      refine (A _).mono ?_
      rintro e w2 ⟨rfl, x2⟩
      go_wp2_with fail
      refine (B _).mono ?_
      rintro e w3 ⟨rfl, x3⟩
      go_wp2_with fail
      refine (C _).mono ?_
      rintro e w4 ⟨rfl, x4⟩
      go_wp2_with fail
      refine (C _).mono ?_
      rintro e w5 ⟨rfl, x5⟩
      go_wp2_with fail
      first | (go_ret; exact ⟨rfl, x1.trans (x2.trans (x3.trans (x4.trans x5)))⟩) | skip
    refine (D _).mono ?_
    rintro e w6 ⟨rfl, x6⟩
    go_wp2_with fail
    refine (C _).mono ?_
    rintro e w7 ⟨rfl, x7⟩
    go_wp2_with fail
    go_ret
    exact ⟨rfl, x1.trans (x2.trans (x3.trans (x4.trans (x5.trans (x6.trans x7)))))⟩

set_option maxHeartbeats 2000000 in
set_option maxRecDepth 100000 in
theorem Joins_walk (a b : ByteArray) (w : World) :
    Calls Try.prog 6 #[.string a, .string b] w fun e w' => e = .returned (.bool true) ∧ Ext w w' := by
  by_cases ha : 100 < a.size
  · go_enter Try.func6, Try.ntmps6
    go_wp2_with fail
    refine (known_any _).mono ?_
    rintro e w1 ⟨rfl, x1⟩
    go_wp2_with fail
    go_ret
    exact ⟨rfl, x1⟩
  · by_cases hb : 100 < b.size
    · go_enter Try.func6, Try.ntmps6
      go_wp2_with fail
      refine (known_any _).mono ?_
      rintro e w1 ⟨rfl, x1⟩
      go_wp2_with fail
      go_ret
      exact ⟨rfl, x1⟩
    · have h1 := count_range (bs a)
      have h2 := count_range (bs b)
      by_cases h3 : countL (bs a) = -1
      · exact Joins_first a b w (by omega) (by omega) _ h3 rfl
      · by_cases h4 : countL (bs b) = -1
        · exact Joins_second a b w (by omega) (by omega) _ rfl h4 (by omega)
        · exact Joins_good a b w (by omega) (by omega) _ _ rfl rfl (by omega) (by omega)
end Go.Proofs.Ytgpenejalpcjmaa
