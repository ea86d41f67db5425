/- The law StampBack answers true: the walk. -/
import Derived.Test.YtgbcaiedlmejfaaStampK
import Derived.Test.YtgbcaiedlmejfaaStampL
import Derived.Test.YtgbcaiedlmejfaaStampBoundsW
namespace Go.Proofs.Ytgbcaiedlmejfaa
open Go.RowKit

theorem of_ms {t L P : Int} (hP : P ≠ 0) (h : ofOk t L P = true) (hb : t.tdiv L ≤ (1125899906842624 : Int).tdiv L ∧ (-1125899906842624 : Int).tdiv L ≤ t.tdiv L) :
    msOk (ofV t L P) L P = true ∧ msV (ofV t L P) L P = t := by
  have h2 := of_decide_eq_true h
  have e : ofV t L P = t.tdiv L * P := by unfold ofV; rw [if_pos h]
  have e2 : (t.tdiv L * P).tdiv P = t.tdiv L := Int.mul_tdiv_cancel _ hP
  have e3 : (t.tdiv L * P).tmod P = 0 := Int.mul_tmod_left _ _
  have e4 := Int.mul_tdiv_add_tmod t L
  rw [h2.2.1, Int.add_zero, Int.mul_comm] at e4
  have ok : msOk (ofV t L P) L P = true := by
    unfold msOk
    rw [e, e2, e3]
    exact decide_eq_true ⟨rfl, hb⟩
  refine ⟨ok, ?_⟩
  unfold msV
  rw [if_pos ok, e, e2, e4]

theorem time_of {t : Int} (h : timeB t = true) : -1125899906842624 ≤ t ∧ t ≤ 1125899906842624 := of_decide_eq_true h
theorem of_rows {t : Int} (ht : timeB t = true) : (t.tdiv 1 ≤ (1125899906842624 : Int).tdiv 1 ∧ (-1125899906842624 : Int).tdiv 1 ≤ t.tdiv 1) ∧ (t.tmod 1000 = 0 → t.tdiv 1000 ≤ (1125899906842624 : Int).tdiv 1000 ∧ (-1125899906842624 : Int).tdiv 1000 ≤ t.tdiv 1000) := by
  have := time_of ht
  refine ⟨?_, fun _ => ?_⟩
  · rw [Int.tdiv_one, Int.tdiv_one, Int.tdiv_one]; omega
  · have e4 := Int.mul_tdiv_add_tmod t 1000
    rw [show (1125899906842624 : Int).tdiv 1000 = 1125899906842 from by decide, show (-1125899906842624 : Int).tdiv 1000 = -1125899906842 from by decide]
    omega

/-- What Of tells of a time in a unit, Ms tells back. -/
theorem unit_back (t x : Int) (ht : timeB t = true) : ∃ n ok, (∀ w, Calls Try.prog 18 #[.int .i64 t, .int .i64 (x % 4)] w fun e w' => e = .returned (.tuple #[.int .i64 n, .bool ok]) ∧ Ext w w') ∧ (ok = true → ∀ w, Calls Try.prog 16 #[.int .i64 n, .int .i64 (x % 4)] w fun e w' => e = .returned (.tuple #[.int .i64 t, .bool true]) ∧ Ext w w') := by
  have hi := time_of ht
  have hI : I64 t := by unfold I64; omega
  obtain ⟨r1, r2⟩ := of_rows ht
  have hu : x % 4 = 0 ∨ x % 4 = 1 ∨ x % 4 = 2 ∨ x % 4 = 3 := by omega
  rcases hu with h | h | h | h
  · rw [h]
    refine ⟨_, _, fun w => Of_0 t w hI, fun ok w => ?_⟩
    obtain ⟨b1, b2⟩ := of_ms (by decide) ok (r2 (of_decide_eq_true ok).2.1)
    have hV : ofV t 1000 1 = t.tdiv 1000 * 1 := by unfold ofV; rw [if_pos ok]
    have hb := (of_decide_eq_true ok).2.2
    rw [show (9223372036854775807 : Int).tdiv 1 = 9223372036854775807 from by decide, show (-9223372036854775808 : Int).tdiv 1 = -9223372036854775808 from by decide] at hb
    have := Ms_0 (ofV t 1000 1) w (by rw [hV]; unfold I64; omega)
    rw [b1, b2] at this
    exact this
  · rw [h]
    refine ⟨_, _, fun w => Of_1 t w hI, fun ok w => ?_⟩
    obtain ⟨b1, b2⟩ := of_ms (by decide) ok r1
    have hV : ofV t 1 1 = t.tdiv 1 * 1 := by unfold ofV; rw [if_pos ok]
    have hb := (of_decide_eq_true ok).2.2
    rw [show (9223372036854775807 : Int).tdiv 1 = 9223372036854775807 from by decide, show (-9223372036854775808 : Int).tdiv 1 = -9223372036854775808 from by decide] at hb
    have := Ms_1 (ofV t 1 1) w (by rw [hV]; unfold I64; omega)
    rw [b1, b2] at this
    exact this
  · rw [h]
    refine ⟨_, _, fun w => Of_2 t w hI, fun ok w => ?_⟩
    obtain ⟨b1, b2⟩ := of_ms (by decide) ok r1
    have hV : ofV t 1 1000 = t.tdiv 1 * 1000 := by unfold ofV; rw [if_pos ok]
    have hb := (of_decide_eq_true ok).2.2
    rw [show (9223372036854775807 : Int).tdiv 1000 = 9223372036854775 from by decide, show (-9223372036854775808 : Int).tdiv 1000 = -9223372036854775 from by decide] at hb
    have := Ms_2 (ofV t 1 1000) w (by rw [hV]; unfold I64; omega)
    rw [b1, b2] at this
    exact this
  · rw [h]
    refine ⟨_, _, fun w => Of_3 t w hI, fun ok w => ?_⟩
    obtain ⟨b1, b2⟩ := of_ms (by decide) ok r1
    have hV : ofV t 1 1000000 = t.tdiv 1 * 1000000 := by unfold ofV; rw [if_pos ok]
    have hb := (of_decide_eq_true ok).2.2
    rw [show (9223372036854775807 : Int).tdiv 1000000 = 9223372036854 from by decide, show (-9223372036854775808 : Int).tdiv 1000000 = -9223372036854 from by decide] at hb
    have := Ms_3 (ofV t 1 1000000) w (by rw [hV]; unfold I64; omega)
    rw [b1, b2] at this
    exact this
theorem of_milli {t : Int} (ht : timeB t = true) (w : World) : Calls Try.prog 18 #[.int .i64 t, .int .i64 1] w fun e w' => e = .returned (.tuple #[.int .i64 t, .bool true]) ∧ Ext w w' := by
  have hi := time_of ht
  have ok : ofOk t 1 1 = true := by
    unfold ofOk
    rw [Int.tdiv_one, Int.tdiv_one, Int.tdiv_one, Int.tmod_one]
    exact decide_eq_true ⟨ht, rfl, by omega, by omega⟩
  have := Of_1 t w (by unfold I64; omega)
  rw [ok, show ofV t 1 1 = t from by unfold ofV; rw [if_pos ok, Int.tdiv_one, Int.mul_one]] at this
  exact this

theorem decOk_small {N s : Nat} (hN : N ≤ 9223372036854775807) (hs : s ≤ 18) : decOk N s = true := by
  have := strip_le s N
  unfold decOk
  exact decide_eq_true ⟨by omega, by omega⟩

theorem printL_len {M S : Int} (h : goodB M S = true) (hM : I64 M) : (printL M S).length ≤ 60 := by
  obtain ⟨⟨hS0, hS1⟩, _⟩ := good_of h
  unfold I64 at hM
  rw [print_is h, List.length_append, List.length_append, asc_length]
  have h1 : (highD M.natAbs S.toNat).length ≤ 21 := by
    have : (digs (M.natAbs / 10 ^ S.toNat / 10)).length ≤ 19 := digs_length (by
      have := Nat.div_le_self M.natAbs (10 ^ S.toNat)
      omega)
    simp [highD]; omega
  have h2 : (if M < 0 then [45] else ([] : List Nat)).length ≤ 1 := by split <;> simp
  have h3 : (if 0 < S.toNat then 46 :: asc (lowD M.natAbs S.toNat) else []).length ≤ 20 := by
    split
    · rw [List.length_cons, asc_length, lowD_length]; omega
    · simp
  omega

/-- A time's text is read as that time's seconds. -/
theorem text_back (t : Int) (ht : timeB t = true) : ∃ M S, I64 M ∧ I64 S ∧ (strN (textL t)).size ≤ 900 ∧ parseV (strN (textL t)) = ((M, S), 0, 0) ∧ scOk M S 3 = true ∧ scM M S 3 = t := by
  have hi := time_of ht
  have ok : (canZ t 3).2 = true := decOk_small (by omega) (by omega)
  obtain ⟨g, hM⟩ := canZ_is_good t 3
  obtain ⟨v1, v2, _⟩ := canZ_val ok
  have e : textL t = printL (canZ t 3).1.1 (canZ t 3).1.2 := by unfold textL; rw [if_pos ht]
  generalize (canZ t 3).1.1 = M at *
  generalize (canZ t 3).1.2 = S at *
  obtain ⟨⟨hS0, hS1⟩, _⟩ := good_of g
  have hb := byL_strN (printL M S) (print_bytes M S)
  refine ⟨M, S, hM, by unfold I64; omega, ?_, ?_, ?_⟩
  · rw [e, ← byL_length, hb]
    have := printL_len g hM
    omega
  · rw [e]; exact parse_print g hM _ hb
  · obtain ⟨e1, e2⟩ := sc_is g 3 (by omega) (by omega)
    have e3 : (3 - S).toNat = 3 - S.toNat := by omega
    have ok2 : scOk M S 3 = true := by
      rw [e2, e3, v1, canZ2]
      exact decOk_small (by omega) (by omega)
    exact ⟨ok2, by rw [sc_val g 3 (by omega) (by omega) ok2, e3, v1]⟩

set_option maxHeartbeats 8000000 in
set_option maxRecDepth 100000 in
theorem StampBack_any (ms x : Int) (w : World) (h0 : 0 ≤ x) (h1 : x ≤ 255) :
    Calls Try.prog 4 #[.int .i64 ms, .int .u8 x] w fun e w' => e = .returned (.bool true) ∧ Ext w w' := by
  have ht : timeB (ms.tmod 1125899906842625) = true := by
    unfold timeB
    have h1 := Int.tmod_lt_of_pos ms (show (0 : Int) < 1125899906842625 by decide)
    have h2 := Int.lt_tmod_of_pos ms (show (0 : Int) < 1125899906842625 by decide)
    exact decide_eq_true ⟨by omega, by omega⟩
  have hi := time_of ht
  obtain ⟨n, ok, O, U⟩ := unit_back _ x ht
  obtain ⟨M, S, hM, hS, hz, hp, s1, s2⟩ := text_back _ ht
  have T := fun w => Text_any _ w (show I64 (ms.tmod 1125899906842625) by unfold I64; omega)
  have P := fun w => Parse_any _ w hz
  rw [hp] at P
  have SS := fun w => Seconds_any M S w hM hS
  rw [s1, s2, ht, show (true && true) = true from rfl, if_pos rfl] at SS
  have OM := fun w => of_milli ht w
  generalize strN (textL (ms.tmod 1125899906842625)) = s at *
  simp only [decV] at P SS
  clear hp s1 s2 hz
  go_enter Try.func4, Try.ntmps4
  go_wp2_with fail
  refine (known_any _).mono ?_
  rintro e w0 ⟨rfl, x0⟩
  go_wp2_with fail
  refine (O _).mono ?_
  rintro e w1 ⟨rfl, x1⟩
  cases ok
  · go_wp2_with fail
    refine (T _).mono ?_
    rintro e w3 ⟨rfl, x3⟩
    go_wp2_with fail
    refine (P _).mono ?_
    rintro e w4 ⟨rfl, x4⟩
    go_wp2_with fail
    refine (SS _).mono ?_
    rintro e w5 ⟨rfl, x5⟩
    go_wp2_with fail
    refine (OM _).mono ?_
    rintro e w6 ⟨rfl, x6⟩
    go_wp2_with fail
    go_ret
    exact ⟨rfl, (((((x0.trans x1).trans x3).trans x4).alloc _).trans x5).trans x6⟩
  · have U2 := U rfl
    go_wp2_with fail
    refine (U2 _).mono ?_
    rintro e w2 ⟨rfl, x2⟩
    go_wp2_with fail
    refine (T _).mono ?_
    rintro e w3 ⟨rfl, x3⟩
    go_wp2_with fail
    refine (P _).mono ?_
    rintro e w4 ⟨rfl, x4⟩
    go_wp2_with fail
    refine (SS _).mono ?_
    rintro e w5 ⟨rfl, x5⟩
    go_wp2_with fail
    refine (OM _).mono ?_
    rintro e w6 ⟨rfl, x6⟩
    go_wp2_with fail
    go_ret
    exact ⟨rfl, ((((((x0.trans x1).trans x2).trans x3).trans x4).alloc _).trans x5).trans x6⟩
end Go.Proofs.Ytgbcaiedlmejfaa
