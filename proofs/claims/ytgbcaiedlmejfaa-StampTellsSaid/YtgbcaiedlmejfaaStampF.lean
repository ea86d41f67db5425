/- The walks of stamp.whole, Int, Uint. -/
import Derived.Test.YtgbcaiedlmejfaaStampE
namespace Go.Proofs.Ytgbcaiedlmejfaa
open Go.RowKit

/-- The number of the digits that a list begins with; whether it is too great; what is behind them. -/
def wGo : List Nat → Nat → Bool → Nat × Bool × List Nat
  | [], n, o => (n, o, [])
  | d :: l, n, o => if 48 ≤ d ∧ d ≤ 57 then (if o || decide (n > (9223372036854775807 - (d - 48)) / 10) then wGo l n true else wGo l (n * 10 + (d - 48)) false) else (n, o, d :: l)
/-- Where a text's digits begin. -/
def wFrom (s : ByteArray) (signed : Bool) : Nat := if signed && minusB s then 1 else 0
/-- What whole tells. -/
def wholeV (s : ByteArray) (signed : Bool) : Int × Int × Int :=
  let r := wGo ((byL s).drop (wFrom s signed)) 0 false
  if s.size - r.2.2.length = wFrom s signed ∨ r.2.2 ≠ [] then (0, 11, ((s.size - r.2.2.length : Nat) : Int))
  else if r.2.1 then (0, 12, 0) else (if 0 < wFrom s signed then -(r.1 : Int) else (r.1 : Int), 0, 0)

theorem wFrom_le (s : ByteArray) (signed : Bool) : wFrom s signed ≤ s.size := by
  unfold wFrom minusB
  split
  · rename_i h
    by_cases h0 : s.size = 0
    · have : byL s = [] := List.eq_nil_of_length_eq_zero (by rw [byL_length]; exact h0)
      rw [this] at h
      simp at h
    · omega
  · omega

set_option maxHeartbeats 8000000 in
set_option maxRecDepth 100000 in
theorem whole_any (s : ByteArray) (signed : Bool) (w : World) (hs : s.size ≤ 9223372036854775807) :
    Calls Try.prog 23 #[.string s, .bool signed] w fun e w' => e = .returned (.tuple #[.int .i64 (wholeV s signed).1, .int .i64 (wholeV s signed).2.1, .int .i64 (wholeV s signed).2.2]) ∧ w = w' := by
  have C := fun w => HasPrefix_any s w hs
  have hf : Hid (wFrom s signed = if signed && minusB s then 1 else 0) := rfl
  have hfl := wFrom_le s signed
  have HV : Hid (wholeV s signed = if s.size - (wGo ((byL s).drop (wFrom s signed)) 0 false).2.2.length = wFrom s signed ∨ (wGo ((byL s).drop (wFrom s signed)) 0 false).2.2 ≠ [] then (0, 11, ((s.size - (wGo ((byL s).drop (wFrom s signed)) 0 false).2.2.length : Nat) : Int)) else if (wGo ((byL s).drop (wFrom s signed)) 0 false).2.1 then (0, 12, 0) else (if 0 < wFrom s signed then -((wGo ((byL s).drop (wFrom s signed)) 0 false).1 : Int) else ((wGo ((byL s).drop (wFrom s signed)) 0 false).1 : Int), 0, 0)) := rfl
  generalize wholeV s signed = V at *
  generalize hF : wFrom s signed = F at *
  clear hF
  generalize minusB s = mb at *
  cases signed
  · obtain rfl : F = 0 := by have := hf.out; simpa using this
    go_enter Try.func23, Try.ntmps23
    go_wp2_with fail
    go_loopw [7, 9, 10] (fun x y z wr => ∃ (i n : Nat) (o : Bool), x = .int .i64 i ∧ y = .int .i64 n ∧ z = .bool o ∧ 0 ≤ i ∧ i ≤ s.size ∧ n ≤ 9223372036854775807 ∧ Hid (wGo ((byL s).drop i) n o = wGo ((byL s).drop 0) 0 false) ∧ wr = w) (fun x _ _ _ => s.size - (intOf x).toNat)
    case atStart => exact ⟨0, 0, false, rfl, rfl, rfl, Nat.le_refl _, hfl, by omega, rfl, rfl⟩
    case round =>
      obtain ⟨i, n, o, rfl, rfl, rfl, l1, l2, l3, hg, rfl⟩ := hrel
      by_cases hin : i < s.size
      · have hc := s[i].toNat_lt
        have hg2 := hg.out
        rw [byL_drop s i hin, wGo] at hg2
        by_cases hd : 48 ≤ s[i].toNat ∧ s[i].toNat ≤ 57
        · rw [if_pos hd] at hg2
          cases o
          · by_cases hov : n > (9223372036854775807 - (s[i].toNat - 48)) / 10
            · rw [if_pos (by simpa using hov)] at hg2
              have HG := Lib.hid hg2
              have hdec : decide ((9223372036854775807 - ((s[i].toNat : Int) - 48)) / 10 < (n : Int)) = true := decide_eq_true (by omega)
              clear hg hg2
              go_wp2_with fail
              exact ⟨⟨i + 1, n, true, vI (by omega), rfl, vB (by first | rfl | exact hdec), by omega, hin, l3, HG, trivial⟩, by simp only [intOf]; omega⟩
            · rw [if_neg (by simpa using hov)] at hg2
              have HG := Lib.hid hg2
              have hdec : decide ((9223372036854775807 - ((s[i].toNat : Int) - 48)) / 10 < (n : Int)) = false := decide_eq_false (by omega)
              have hr : n * 10 + (s[i].toNat - 48) ≤ 9223372036854775807 := by omega
              clear hg hg2
              go_wp2_with fail
              exact ⟨⟨i + 1, n * 10 + (s[i].toNat - 48), false, vI (by omega), vI (by omega), vB (by first | rfl | exact hdec), by omega, hin, hr, HG, trivial⟩, by simp only [intOf]; omega⟩
          · rw [if_pos (by simp)] at hg2
            have HG := Lib.hid hg2
            clear hg hg2
            go_wp2_with fail
            exact ⟨⟨i + 1, n, true, vI (by omega), rfl, rfl, by omega, hin, l3, HG, trivial⟩, by simp only [intOf]; omega⟩
        · rw [if_neg hd] at hg2
          rw [← hg2] at HV
          have hlen : (s[i].toNat :: (byL s).drop (i + 1)).length = s.size - i := by rw [← byL_drop s i hin, List.length_drop, byL_length]
          have HV2 : Hid (V = (0, 11, (i : Int))) := Lib.hid (by
            rw [HV.out, if_pos (.inr (by simp))]
            simp only [hlen]
            congr 2; omega)
          clear hg hg2 HV hlen
          rcases Nat.lt_or_ge s[i].toNat 48 with h4 | h4
          · go_wp2_with fail
            all_goals
              go_ret3
              rw [HV2.out]
              exact ⟨ret3 (vI (by first | rfl | omega)) (vI (by first | rfl | omega)) (vI (by first | rfl | (show _ = (i : Int); omega))), rfl⟩
          · have h5 : 57 < s[i].toNat := by omega
            go_wp2_with fail
            all_goals
              go_ret3
              rw [HV2.out]
              exact ⟨ret3 (vI (by first | rfl | omega)) (vI (by first | rfl | omega)) (vI (by first | rfl | (show _ = (i : Int); omega))), rfl⟩
      · obtain rfl : i = s.size := by omega
        have hg2 := hg.out
        rw [List.drop_eq_nil_of_le (by rw [byL_length]; exact Nat.le_refl _), wGo] at hg2
        rw [← hg2] at HV
        by_cases h0 : s.size = 0
        · have HV2 : Hid (V = (0, 11, ((s.size : Nat) : Int))) := Lib.hid (by
            rw [HV.out, if_pos (.inl (by show s.size - 0 = 0; omega))]; rfl)
          clear hg hg2 HV
          go_wp2_with fail
          all_goals
            go_ret3
            rw [HV2.out]
            exact ⟨ret3 (vI (by first | rfl | omega)) (vI (by first | rfl | omega)) (vI (by first | rfl | (show _ = (i : Int); omega))), rfl⟩
        · cases o
          · have HV2 : Hid (V = ((n : Int), 0, 0)) := Lib.hid (by
              rw [HV.out, if_neg (fun h => h.elim (fun h1 => by have h2 : s.size - 0 = 0 := h1; omega) (fun h1 => h1 rfl))]; rfl)
            clear hg hg2 HV
            go_wp2_with fail
            all_goals
              go_ret3
              rw [HV2.out]
              exact ⟨ret3 (vI (by first | rfl | omega)) (vI (by first | rfl | omega)) (vI (by first | rfl | (show _ = (i : Int); omega))), rfl⟩
          · have HV2 : Hid (V = (0, 12, 0)) := Lib.hid (by
              rw [HV.out, if_neg (fun h => h.elim (fun h1 => by have h2 : s.size - 0 = 0 := h1; omega) (fun h1 => h1 rfl))]; rfl)
            clear hg hg2 HV
            go_wp2_with fail
            all_goals
              go_ret3
              rw [HV2.out]
              exact ⟨ret3 (vI (by first | rfl | omega)) (vI (by first | rfl | omega)) (vI (by first | rfl | (show _ = (i : Int); omega))), rfl⟩
  · cases mb
    · obtain rfl : F = 0 := by have := hf.out; simpa using this
      go_enter Try.func23, Try.ntmps23
      go_wp2_with fail
      refine (C _).mono ?_
      rintro e w1 ⟨rfl, rfl⟩
      go_wp2_with fail
      go_loopw [7, 9, 10] (fun x y z wr => ∃ (i n : Nat) (o : Bool), x = .int .i64 i ∧ y = .int .i64 n ∧ z = .bool o ∧ 0 ≤ i ∧ i ≤ s.size ∧ n ≤ 9223372036854775807 ∧ Hid (wGo ((byL s).drop i) n o = wGo ((byL s).drop 0) 0 false) ∧ wr = w) (fun x _ _ _ => s.size - (intOf x).toNat)
      case atStart => exact ⟨0, 0, false, rfl, rfl, rfl, Nat.le_refl _, hfl, by omega, rfl, rfl⟩
      case round =>
        obtain ⟨i, n, o, rfl, rfl, rfl, l1, l2, l3, hg, rfl⟩ := hrel
        by_cases hin : i < s.size
        · have hc := s[i].toNat_lt
          have hg2 := hg.out
          rw [byL_drop s i hin, wGo] at hg2
          by_cases hd : 48 ≤ s[i].toNat ∧ s[i].toNat ≤ 57
          · rw [if_pos hd] at hg2
            cases o
            · by_cases hov : n > (9223372036854775807 - (s[i].toNat - 48)) / 10
              · rw [if_pos (by simpa using hov)] at hg2
                have HG := Lib.hid hg2
                have hdec : decide ((9223372036854775807 - ((s[i].toNat : Int) - 48)) / 10 < (n : Int)) = true := decide_eq_true (by omega)
                clear hg hg2
                go_wp2_with fail
                exact ⟨⟨i + 1, n, true, vI (by omega), rfl, vB (by first | rfl | exact hdec), by omega, hin, l3, HG, trivial⟩, by simp only [intOf]; omega⟩
              · rw [if_neg (by simpa using hov)] at hg2
                have HG := Lib.hid hg2
                have hdec : decide ((9223372036854775807 - ((s[i].toNat : Int) - 48)) / 10 < (n : Int)) = false := decide_eq_false (by omega)
                have hr : n * 10 + (s[i].toNat - 48) ≤ 9223372036854775807 := by omega
                clear hg hg2
                go_wp2_with fail
                exact ⟨⟨i + 1, n * 10 + (s[i].toNat - 48), false, vI (by omega), vI (by omega), vB (by first | rfl | exact hdec), by omega, hin, hr, HG, trivial⟩, by simp only [intOf]; omega⟩
            · rw [if_pos (by simp)] at hg2
              have HG := Lib.hid hg2
              clear hg hg2
              go_wp2_with fail
              exact ⟨⟨i + 1, n, true, vI (by omega), rfl, rfl, by omega, hin, l3, HG, trivial⟩, by simp only [intOf]; omega⟩
          · rw [if_neg hd] at hg2
            rw [← hg2] at HV
            have hlen : (s[i].toNat :: (byL s).drop (i + 1)).length = s.size - i := by rw [← byL_drop s i hin, List.length_drop, byL_length]
            have HV2 : Hid (V = (0, 11, (i : Int))) := Lib.hid (by
              rw [HV.out, if_pos (.inr (by simp))]
              simp only [hlen]
              congr 2; omega)
            clear hg hg2 HV hlen
            rcases Nat.lt_or_ge s[i].toNat 48 with h4 | h4
            · go_wp2_with fail
              all_goals
                go_ret3
                rw [HV2.out]
                exact ⟨ret3 (vI (by first | rfl | omega)) (vI (by first | rfl | omega)) (vI (by first | rfl | (show _ = (i : Int); omega))), rfl⟩
            · have h5 : 57 < s[i].toNat := by omega
              go_wp2_with fail
              all_goals
                go_ret3
                rw [HV2.out]
                exact ⟨ret3 (vI (by first | rfl | omega)) (vI (by first | rfl | omega)) (vI (by first | rfl | (show _ = (i : Int); omega))), rfl⟩
        · obtain rfl : i = s.size := by omega
          have hg2 := hg.out
          rw [List.drop_eq_nil_of_le (by rw [byL_length]; exact Nat.le_refl _), wGo] at hg2
          rw [← hg2] at HV
          by_cases h0 : s.size = 0
          · have HV2 : Hid (V = (0, 11, ((s.size : Nat) : Int))) := Lib.hid (by
              rw [HV.out, if_pos (.inl (by show s.size - 0 = 0; omega))]; rfl)
            clear hg hg2 HV
            go_wp2_with fail
            all_goals
              go_ret3
              rw [HV2.out]
              exact ⟨ret3 (vI (by first | rfl | omega)) (vI (by first | rfl | omega)) (vI (by first | rfl | (show _ = (i : Int); omega))), rfl⟩
          · cases o
            · have HV2 : Hid (V = ((n : Int), 0, 0)) := Lib.hid (by
                rw [HV.out, if_neg (fun h => h.elim (fun h1 => by have h2 : s.size - 0 = 0 := h1; omega) (fun h1 => h1 rfl))]; rfl)
              clear hg hg2 HV
              go_wp2_with fail
              all_goals
                go_ret3
                rw [HV2.out]
                exact ⟨ret3 (vI (by first | rfl | omega)) (vI (by first | rfl | omega)) (vI (by first | rfl | (show _ = (i : Int); omega))), rfl⟩
            · have HV2 : Hid (V = (0, 12, 0)) := Lib.hid (by
                rw [HV.out, if_neg (fun h => h.elim (fun h1 => by have h2 : s.size - 0 = 0 := h1; omega) (fun h1 => h1 rfl))]; rfl)
              clear hg hg2 HV
              go_wp2_with fail
              all_goals
                go_ret3
                rw [HV2.out]
                exact ⟨ret3 (vI (by first | rfl | omega)) (vI (by first | rfl | omega)) (vI (by first | rfl | (show _ = (i : Int); omega))), rfl⟩
    · obtain rfl : F = 1 := by have := hf.out; simpa using this
      go_enter Try.func23, Try.ntmps23
      go_wp2_with fail
      refine (C _).mono ?_
      rintro e w1 ⟨rfl, rfl⟩
      go_wp2_with fail
      go_loopw [7, 9, 10] (fun x y z wr => ∃ (i n : Nat) (o : Bool), x = .int .i64 i ∧ y = .int .i64 n ∧ z = .bool o ∧ 1 ≤ i ∧ i ≤ s.size ∧ n ≤ 9223372036854775807 ∧ Hid (wGo ((byL s).drop i) n o = wGo ((byL s).drop 1) 0 false) ∧ wr = w) (fun x _ _ _ => s.size - (intOf x).toNat)
      case atStart => exact ⟨1, 0, false, rfl, rfl, rfl, Nat.le_refl _, hfl, by omega, rfl, rfl⟩
      case round =>
        obtain ⟨i, n, o, rfl, rfl, rfl, l1, l2, l3, hg, rfl⟩ := hrel
        by_cases hin : i < s.size
        · have hc := s[i].toNat_lt
          have hg2 := hg.out
          rw [byL_drop s i hin, wGo] at hg2
          by_cases hd : 48 ≤ s[i].toNat ∧ s[i].toNat ≤ 57
          · rw [if_pos hd] at hg2
            cases o
            · by_cases hov : n > (9223372036854775807 - (s[i].toNat - 48)) / 10
              · rw [if_pos (by simpa using hov)] at hg2
                have HG := Lib.hid hg2
                have hdec : decide ((9223372036854775807 - ((s[i].toNat : Int) - 48)) / 10 < (n : Int)) = true := decide_eq_true (by omega)
                clear hg hg2
                go_wp2_with fail
                exact ⟨⟨i + 1, n, true, vI (by omega), rfl, vB (by first | rfl | exact hdec), by omega, hin, l3, HG, trivial⟩, by simp only [intOf]; omega⟩
              · rw [if_neg (by simpa using hov)] at hg2
                have HG := Lib.hid hg2
                have hdec : decide ((9223372036854775807 - ((s[i].toNat : Int) - 48)) / 10 < (n : Int)) = false := decide_eq_false (by omega)
                have hr : n * 10 + (s[i].toNat - 48) ≤ 9223372036854775807 := by omega
                clear hg hg2
                go_wp2_with fail
                exact ⟨⟨i + 1, n * 10 + (s[i].toNat - 48), false, vI (by omega), vI (by omega), vB (by first | rfl | exact hdec), by omega, hin, hr, HG, trivial⟩, by simp only [intOf]; omega⟩
            · rw [if_pos (by simp)] at hg2
              have HG := Lib.hid hg2
              clear hg hg2
              go_wp2_with fail
              exact ⟨⟨i + 1, n, true, vI (by omega), rfl, rfl, by omega, hin, l3, HG, trivial⟩, by simp only [intOf]; omega⟩
          · rw [if_neg hd] at hg2
            rw [← hg2] at HV
            have hlen : (s[i].toNat :: (byL s).drop (i + 1)).length = s.size - i := by rw [← byL_drop s i hin, List.length_drop, byL_length]
            have HV2 : Hid (V = (0, 11, (i : Int))) := Lib.hid (by
              rw [HV.out, if_pos (.inr (by simp))]
              simp only [hlen]
              congr 2; omega)
            clear hg hg2 HV hlen
            rcases Nat.lt_or_ge s[i].toNat 48 with h4 | h4
            · go_wp2_with fail
              all_goals
                go_ret3
                rw [HV2.out]
                exact ⟨ret3 (vI (by first | rfl | omega)) (vI (by first | rfl | omega)) (vI (by first | rfl | (show _ = (i : Int); omega))), rfl⟩
            · have h5 : 57 < s[i].toNat := by omega
              go_wp2_with fail
              all_goals
                go_ret3
                rw [HV2.out]
                exact ⟨ret3 (vI (by first | rfl | omega)) (vI (by first | rfl | omega)) (vI (by first | rfl | (show _ = (i : Int); omega))), rfl⟩
        · obtain rfl : i = s.size := by omega
          have hg2 := hg.out
          rw [List.drop_eq_nil_of_le (by rw [byL_length]; exact Nat.le_refl _), wGo] at hg2
          rw [← hg2] at HV
          by_cases h0 : s.size = 1
          · have HV2 : Hid (V = (0, 11, ((s.size : Nat) : Int))) := Lib.hid (by
              rw [HV.out, if_pos (.inl (by show s.size - 0 = 1; omega))]; rfl)
            clear hg hg2 HV
            go_wp2_with fail
            all_goals
              go_ret3
              rw [HV2.out]
              exact ⟨ret3 (vI (by first | rfl | omega)) (vI (by first | rfl | omega)) (vI (by first | rfl | (show _ = (i : Int); omega))), rfl⟩
          · cases o
            · have HV2 : Hid (V = (-(n : Int), 0, 0)) := Lib.hid (by
                rw [HV.out, if_neg (fun h => h.elim (fun h1 => by have h2 : s.size - 0 = 1 := h1; omega) (fun h1 => h1 rfl))]; rfl)
              clear hg hg2 HV
              go_wp2_with fail
              all_goals
                go_ret3
                rw [HV2.out]
                exact ⟨ret3 (vI (by first | rfl | omega)) (vI (by first | rfl | omega)) (vI (by first | rfl | (show _ = (i : Int); omega))), rfl⟩
            · have HV2 : Hid (V = (0, 12, 0)) := Lib.hid (by
                rw [HV.out, if_neg (fun h => h.elim (fun h1 => by have h2 : s.size - 0 = 1 := h1; omega) (fun h1 => h1 rfl))]; rfl)
              clear hg hg2 HV
              go_wp2_with fail
              all_goals
                go_ret3
                rw [HV2.out]
                exact ⟨ret3 (vI (by first | rfl | omega)) (vI (by first | rfl | omega)) (vI (by first | rfl | (show _ = (i : Int); omega))), rfl⟩
end Go.Proofs.Ytgbcaiedlmejfaa
