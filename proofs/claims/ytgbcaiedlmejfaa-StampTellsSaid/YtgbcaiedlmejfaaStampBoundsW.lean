/- The law StampBounds answers true: the walk; the known answers. -/
import Derived.Test.YtgbcaiedlmejfaaStampG
namespace Go.Proofs.Ytgbcaiedlmejfaa
open Go.RowKit

theorem i64_lit (n : Int) (h : -9223372036854775808 ≤ n ∧ n ≤ 9223372036854775807) : I64 n := h
theorem text_known : strN (textL 1500) = { data := #[49, 46, 53] } := by rw [text_1500]; decide
theorem text_empty : strN [] = { data := #[] } := by decide

theorem text_p : strN (textL (1125899906842624)) = { data := #[49, 49, 50, 53, 56, 57, 57, 57, 48, 54, 56, 52, 50, 46, 54, 50, 52] } := by
  have h : canZ (1125899906842624) 3 = ((1125899906842624, 3), true) := by decide
  have e : textL (1125899906842624) = [49, 49, 50, 53, 56, 57, 57, 57, 48, 54, 56, 52, 50, 46, 54, 50, 52] := by
    unfold textL
    rw [if_pos (by decide), h]
    unfold printL
    rw [if_pos (by decide), if_neg (by decide)]
    show prL 1125899906842624 0 3 [] = _
    rw [prL_step _ (by omega), prL_step _ (by omega), prL_step _ (by omega), prL_step _ (by omega), prL_step _ (by omega), prL_step _ (by omega), prL_step _ (by omega), prL_step _ (by omega), prL_step _ (by omega), prL_step _ (by omega), prL_step _ (by omega), prL_step _ (by omega), prL_step _ (by omega), prL_step _ (by omega), prL_step _ (by omega), prL_step _ (by omega), prL_stop _ (by omega)]
    decide
  rw [e]; decide

theorem text_n : strN (textL (-1125899906842624)) = { data := #[45, 49, 49, 50, 53, 56, 57, 57, 57, 48, 54, 56, 52, 50, 46, 54, 50, 52] } := by
  have h : canZ (-1125899906842624) 3 = ((-1125899906842624, 3), true) := by decide
  have e : textL (-1125899906842624) = [45, 49, 49, 50, 53, 56, 57, 57, 57, 48, 54, 56, 52, 50, 46, 54, 50, 52] := by
    unfold textL
    rw [if_pos (by decide), h]
    unfold printL
    rw [if_pos (by decide), if_pos (by decide)]
    show 45 :: prL 1125899906842624 0 3 [] = _
    rw [prL_step _ (by omega), prL_step _ (by omega), prL_step _ (by omega), prL_step _ (by omega), prL_step _ (by omega), prL_step _ (by omega), prL_step _ (by omega), prL_step _ (by omega), prL_step _ (by omega), prL_step _ (by omega), prL_step _ (by omega), prL_step _ (by omega), prL_step _ (by omega), prL_step _ (by omega), prL_step _ (by omega), prL_step _ (by omega), prL_stop _ (by omega)]
    decide
  rw [e]; decide

set_option maxHeartbeats 8000000 in
set_option maxRecDepth 100000 in
theorem known_any (w : World) :
    Calls Try.prog 7 #[] w fun e w' => e = .returned (.bool true) ∧ Ext w w' := by
  have K1 : ∀ w, Calls Try.prog 8 #[.string { data := #[45, 49, 50] }] w fun e w' => e = .returned (.tuple #[.int .i64 (-12), .int .i64 0, .int .i64 0]) ∧ w = w' := fun w => by
    have := Int_any { data := #[45, 49, 50] } w (by decide)
    rw [whole_1] at this
    exact this
  have K2 : ∀ w, Calls Try.prog 8 #[.string { data := #[49, 120] }] w fun e w' => e = .returned (.tuple #[.int .i64 0, .int .i64 11, .int .i64 1]) ∧ w = w' := fun w => by
    have := Int_any { data := #[49, 120] } w (by decide)
    rw [whole_2] at this
    exact this
  have K3 : ∀ w, Calls Try.prog 10 #[.string { data := #[45, 49] }] w fun e w' => e = .returned (.tuple #[.int .i64 0, .int .i64 11, .int .i64 0]) ∧ w = w' := fun w => by
    have := Uint_any { data := #[45, 49] } w (by decide)
    rw [whole_3] at this
    exact this
  have K4 : ∀ w, Calls Try.prog 16 #[.int .i64 1500000, .int .i64 2] w fun e w' => e = .returned (.tuple #[.int .i64 1500, .bool true]) ∧ Ext w w' := fun w => by
    have := Ms_2 1500000 w (i64_lit _ (by omega))
    rw [show msV 1500000 1 1000 = 1500 from by decide, show msOk 1500000 1 1000 = true from by decide] at this
    exact this
  have K5 : ∀ w, Calls Try.prog 18 #[.int .i64 1500, .int .i64 0] w fun e w' => e = .returned (.tuple #[.int .i64 0, .bool false]) ∧ Ext w w' := fun w => by
    have := Of_0 1500 w (i64_lit _ (by omega))
    rw [show ofV 1500 1000 1 = 0 from by decide, show ofOk 1500 1000 1 = false from by decide] at this
    exact this
  have K6 : ∀ w, Calls Try.prog 18 #[.int .i64 1500, .int .i64 3] w fun e w' => e = .returned (.tuple #[.int .i64 1500000000, .bool true]) ∧ Ext w w' := fun w => by
    have := Of_3 1500 w (i64_lit _ (by omega))
    rw [show ofV 1500 1 1000000 = 1500000000 from by decide, show ofOk 1500 1 1000000 = true from by decide] at this
    exact this
  have K7 : ∀ w, Calls Try.prog 12 #[.agg #[.int .i64 15, .int .i64 1]] w fun e w' => e = .returned (.tuple #[.int .i64 1500, .bool true]) ∧ Ext w w' := fun w => by
    have := Seconds_any 15 1 w (i64_lit _ (by omega)) (i64_lit _ (by omega))
    rw [show scOk 15 1 3 = true from by decide, show scM 15 1 3 = 1500 from by decide, show timeB 1500 = true from by decide] at this
    exact this
  have K8 : ∀ w, Calls Try.prog 14 #[.int .i64 1500] w fun e w' => e = .returned (.string { data := #[49, 46, 53] }) ∧ Ext w w' := fun w => by
    have := Text_any 1500 w (i64_lit _ (by omega))
    rw [text_known] at this
    exact this
  have K9 : ∀ w, Calls Try.prog 14 #[.int .i64 1125899906842625] w fun e w' => e = .returned (.string { data := #[] }) ∧ Ext w w' := fun w => by
    have := Text_any 1125899906842625 w (i64_lit _ (by omega))
    rw [text_none _ (by decide), text_empty] at this
    exact this
  go_enter Try.func7, Try.ntmps7
  go_wp2_with fail
  refine (K1 _).mono ?_
  rintro e w1 ⟨rfl, rfl⟩
  go_wp2_with fail
  refine (K2 _).mono ?_
  rintro e w2 ⟨rfl, rfl⟩
  go_wp2_with fail
  refine (K3 _).mono ?_
  rintro e w3 ⟨rfl, rfl⟩
  go_wp2_with fail
  refine (K4 _).mono ?_
  rintro e w4 ⟨rfl, x4⟩
  go_wp2_with fail
  refine (K5 _).mono ?_
  rintro e w5 ⟨rfl, x5⟩
  go_wp2_with fail
  refine (K6 _).mono ?_
  rintro e w6 ⟨rfl, x6⟩
  go_wp2_with fail
  refine (K7 _).mono ?_
  rintro e w7 ⟨rfl, x7⟩
  go_wp2_with fail
  refine (K8 _).mono ?_
  rintro e w8 ⟨rfl, x8⟩
  go_wp2_with fail
  refine (K9 _).mono ?_
  rintro e w9 ⟨rfl, x9⟩
  go_wp2_with fail
  go_ret
  exact ⟨rfl, ((((x4.trans x5).trans x6).trans x7).trans x8).trans x9⟩

set_option maxHeartbeats 8000000 in
set_option maxRecDepth 100000 in
theorem StampBounds_false (x : Int) (w : World) (h0 : 0 ≤ x) (h1 : x ≤ 255) :
    Calls Try.prog 5 #[.bool false, .int .u8 x] w fun e w' => e = .returned (.bool true) ∧ Ext w w' := by
  have A1 : ∀ w, Calls Try.prog 16 #[.int .i64 1125899906842624, .int .i64 1] w fun e w' => e = .returned (.tuple #[.int .i64 1125899906842624, .bool true]) ∧ Ext w w' := fun w => by
    have := Ms_1 1125899906842624 w (i64_lit _ (by omega))
    rw [show msV 1125899906842624 1 1 = 1125899906842624 from by decide, show msOk 1125899906842624 1 1 = true from by decide] at this
    exact this
  have A2 : ∀ w, Calls Try.prog 16 #[.int .i64 1125899906842625, .int .i64 1] w fun e w' => e = .returned (.tuple #[.int .i64 0, .bool false]) ∧ Ext w w' := fun w => by
    have := Ms_1 1125899906842625 w (i64_lit _ (by omega))
    rw [show msV 1125899906842625 1 1 = 0 from by decide, show msOk 1125899906842625 1 1 = false from by decide] at this
    exact this
  have A3 : ∀ w, Calls Try.prog 16 #[.int .i64 1125899906842624000, .int .i64 2] w fun e w' => e = .returned (.tuple #[.int .i64 1125899906842624, .bool true]) ∧ Ext w w' := fun w => by
    have := Ms_2 1125899906842624000 w (i64_lit _ (by omega))
    rw [show msV 1125899906842624000 1 1000 = 1125899906842624 from by decide, show msOk 1125899906842624000 1 1000 = true from by decide] at this
    exact this
  have A4 : ∀ w, Calls Try.prog 16 #[.int .i64 1125899906842625000, .int .i64 2] w fun e w' => e = .returned (.tuple #[.int .i64 0, .bool false]) ∧ Ext w w' := fun w => by
    have := Ms_2 1125899906842625000 w (i64_lit _ (by omega))
    rw [show msV 1125899906842625000 1 1000 = 0 from by decide, show msOk 1125899906842625000 1 1000 = false from by decide] at this
    exact this
  have A5 : ∀ w, Calls Try.prog 18 #[.int .i64 1125899906842625, .int .i64 (x % 4)] w fun e w' => e = .returned (.tuple #[.int .i64 0, .bool false]) ∧ Ext w w' := fun w => by
    have hu : x % 4 = 0 ∨ x % 4 = 1 ∨ x % 4 = 2 ∨ x % 4 = 3 := by omega
    rcases hu with h | h | h | h
    · rw [h]
      have := Of_0 1125899906842625 w (i64_lit _ (by omega))
      rw [show ofV 1125899906842625 1000 1 = 0 from by decide, show ofOk 1125899906842625 1000 1 = false from by decide] at this
      exact this
    · rw [h]
      have := Of_1 1125899906842625 w (i64_lit _ (by omega))
      rw [show ofV 1125899906842625 1 1 = 0 from by decide, show ofOk 1125899906842625 1 1 = false from by decide] at this
      exact this
    · rw [h]
      have := Of_2 1125899906842625 w (i64_lit _ (by omega))
      rw [show ofV 1125899906842625 1 1000 = 0 from by decide, show ofOk 1125899906842625 1 1000 = false from by decide] at this
      exact this
    · rw [h]
      have := Of_3 1125899906842625 w (i64_lit _ (by omega))
      rw [show ofV 1125899906842625 1 1000000 = 0 from by decide, show ofOk 1125899906842625 1 1000000 = false from by decide] at this
      exact this
  have A6 : ∀ w, Calls Try.prog 16 #[.int .i64 1125899906842624, .int .i64 0] w fun e w' => e = .returned (.tuple #[.int .i64 0, .bool false]) ∧ Ext w w' := fun w => by
    have := Ms_0 1125899906842624 w (i64_lit _ (by omega))
    rw [show msV 1125899906842624 1000 1 = 0 from by decide, show msOk 1125899906842624 1000 1 = false from by decide] at this
    exact this
  have A7 : ∀ w, Calls Try.prog 18 #[.int .i64 1125899906842624, .int .i64 3] w fun e w' => e = .returned (.tuple #[.int .i64 0, .bool false]) ∧ Ext w w' := fun w => by
    have := Of_3 1125899906842624 w (i64_lit _ (by omega))
    rw [show ofV 1125899906842624 1 1000000 = 0 from by decide, show ofOk 1125899906842624 1 1000000 = false from by decide] at this
    exact this
  have A8 : ∀ w, Calls Try.prog 14 #[.int .i64 1125899906842624] w fun e w' => e = .returned (.string { data := #[49, 49, 50, 53, 56, 57, 57, 57, 48, 54, 56, 52, 50, 46, 54, 50, 52] }) ∧ Ext w w' := fun w => by
    have := Text_any 1125899906842624 w (i64_lit _ (by omega))
    rw [text_p] at this
    exact this
  have A9 : ∀ w, Calls Try.prog 14 #[.int .i64 1125899906842625] w fun e w' => e = .returned (.string { data := #[] }) ∧ Ext w w' := fun w => by
    have := Text_any 1125899906842625 w (i64_lit _ (by omega))
    rw [text_none _ (by decide), text_empty] at this
    exact this
  go_enter Try.func5, Try.ntmps5
  go_wp2_with fail
  refine (known_any _).mono ?_
  rintro e w0 ⟨rfl, x0⟩
  go_wp2_with fail
  refine (A1 _).mono ?_
  rintro e w1 ⟨rfl, x1⟩
  go_wp2_with fail
  refine (A2 _).mono ?_
  rintro e w2 ⟨rfl, x2⟩
  go_wp2_with fail
  refine (A3 _).mono ?_
  rintro e w3 ⟨rfl, x3⟩
  go_wp2_with fail
  refine (A4 _).mono ?_
  rintro e w4 ⟨rfl, x4⟩
  go_wp2_with fail
  refine (A5 _).mono ?_
  rintro e w5 ⟨rfl, x5⟩
  go_wp2_with fail
  refine (A6 _).mono ?_
  rintro e w6 ⟨rfl, x6⟩
  go_wp2_with fail
  refine (A7 _).mono ?_
  rintro e w7 ⟨rfl, x7⟩
  go_wp2_with fail
  refine (A8 _).mono ?_
  rintro e w8 ⟨rfl, x8⟩
  go_wp2_with fail
  refine (A9 _).mono ?_
  rintro e w9 ⟨rfl, x9⟩
  go_wp2_with fail
  go_ret
  exact ⟨rfl, ((((((((x0.trans x1).trans x2).trans x3).trans x4).trans x5).trans x6).trans x7).trans x8).trans x9⟩

set_option maxHeartbeats 8000000 in
set_option maxRecDepth 100000 in
theorem StampBounds_true (x : Int) (w : World) (h0 : 0 ≤ x) (h1 : x ≤ 255) :
    Calls Try.prog 5 #[.bool true, .int .u8 x] w fun e w' => e = .returned (.bool true) ∧ Ext w w' := by
  have A1 : ∀ w, Calls Try.prog 16 #[.int .i64 (-1125899906842624), .int .i64 1] w fun e w' => e = .returned (.tuple #[.int .i64 (-1125899906842624), .bool true]) ∧ Ext w w' := fun w => by
    have := Ms_1 (-1125899906842624) w (i64_lit _ (by omega))
    rw [show msV (-1125899906842624) 1 1 = (-1125899906842624) from by decide, show msOk (-1125899906842624) 1 1 = true from by decide] at this
    exact this
  have A2 : ∀ w, Calls Try.prog 16 #[.int .i64 (-1125899906842625), .int .i64 1] w fun e w' => e = .returned (.tuple #[.int .i64 0, .bool false]) ∧ Ext w w' := fun w => by
    have := Ms_1 (-1125899906842625) w (i64_lit _ (by omega))
    rw [show msV (-1125899906842625) 1 1 = 0 from by decide, show msOk (-1125899906842625) 1 1 = false from by decide] at this
    exact this
  have A3 : ∀ w, Calls Try.prog 16 #[.int .i64 (-1125899906842624000), .int .i64 2] w fun e w' => e = .returned (.tuple #[.int .i64 (-1125899906842624), .bool true]) ∧ Ext w w' := fun w => by
    have := Ms_2 (-1125899906842624000) w (i64_lit _ (by omega))
    rw [show msV (-1125899906842624000) 1 1000 = (-1125899906842624) from by decide, show msOk (-1125899906842624000) 1 1000 = true from by decide] at this
    exact this
  have A4 : ∀ w, Calls Try.prog 16 #[.int .i64 (-1125899906842625000), .int .i64 2] w fun e w' => e = .returned (.tuple #[.int .i64 0, .bool false]) ∧ Ext w w' := fun w => by
    have := Ms_2 (-1125899906842625000) w (i64_lit _ (by omega))
    rw [show msV (-1125899906842625000) 1 1000 = 0 from by decide, show msOk (-1125899906842625000) 1 1000 = false from by decide] at this
    exact this
  have A5 : ∀ w, Calls Try.prog 18 #[.int .i64 (-1125899906842625), .int .i64 (x % 4)] w fun e w' => e = .returned (.tuple #[.int .i64 0, .bool false]) ∧ Ext w w' := fun w => by
    have hu : x % 4 = 0 ∨ x % 4 = 1 ∨ x % 4 = 2 ∨ x % 4 = 3 := by omega
    rcases hu with h | h | h | h
    · rw [h]
      have := Of_0 (-1125899906842625) w (i64_lit _ (by omega))
      rw [show ofV (-1125899906842625) 1000 1 = 0 from by decide, show ofOk (-1125899906842625) 1000 1 = false from by decide] at this
      exact this
    · rw [h]
      have := Of_1 (-1125899906842625) w (i64_lit _ (by omega))
      rw [show ofV (-1125899906842625) 1 1 = 0 from by decide, show ofOk (-1125899906842625) 1 1 = false from by decide] at this
      exact this
    · rw [h]
      have := Of_2 (-1125899906842625) w (i64_lit _ (by omega))
      rw [show ofV (-1125899906842625) 1 1000 = 0 from by decide, show ofOk (-1125899906842625) 1 1000 = false from by decide] at this
      exact this
    · rw [h]
      have := Of_3 (-1125899906842625) w (i64_lit _ (by omega))
      rw [show ofV (-1125899906842625) 1 1000000 = 0 from by decide, show ofOk (-1125899906842625) 1 1000000 = false from by decide] at this
      exact this
  have A6 : ∀ w, Calls Try.prog 16 #[.int .i64 (-1125899906842624), .int .i64 0] w fun e w' => e = .returned (.tuple #[.int .i64 0, .bool false]) ∧ Ext w w' := fun w => by
    have := Ms_0 (-1125899906842624) w (i64_lit _ (by omega))
    rw [show msV (-1125899906842624) 1000 1 = 0 from by decide, show msOk (-1125899906842624) 1000 1 = false from by decide] at this
    exact this
  have A7 : ∀ w, Calls Try.prog 18 #[.int .i64 (-1125899906842624), .int .i64 3] w fun e w' => e = .returned (.tuple #[.int .i64 0, .bool false]) ∧ Ext w w' := fun w => by
    have := Of_3 (-1125899906842624) w (i64_lit _ (by omega))
    rw [show ofV (-1125899906842624) 1 1000000 = 0 from by decide, show ofOk (-1125899906842624) 1 1000000 = false from by decide] at this
    exact this
  have A8 : ∀ w, Calls Try.prog 14 #[.int .i64 (-1125899906842624)] w fun e w' => e = .returned (.string { data := #[45, 49, 49, 50, 53, 56, 57, 57, 57, 48, 54, 56, 52, 50, 46, 54, 50, 52] }) ∧ Ext w w' := fun w => by
    have := Text_any (-1125899906842624) w (i64_lit _ (by omega))
    rw [text_n] at this
    exact this
  have A9 : ∀ w, Calls Try.prog 14 #[.int .i64 (-1125899906842625)] w fun e w' => e = .returned (.string { data := #[] }) ∧ Ext w w' := fun w => by
    have := Text_any (-1125899906842625) w (i64_lit _ (by omega))
    rw [text_none _ (by decide), text_empty] at this
    exact this
  go_enter Try.func5, Try.ntmps5
  go_wp2_with fail
  refine (known_any _).mono ?_
  rintro e w0 ⟨rfl, x0⟩
  go_wp2_with fail
  refine (A1 _).mono ?_
  rintro e w1 ⟨rfl, x1⟩
  go_wp2_with fail
  refine (A2 _).mono ?_
  rintro e w2 ⟨rfl, x2⟩
  go_wp2_with fail
  refine (A3 _).mono ?_
  rintro e w3 ⟨rfl, x3⟩
  go_wp2_with fail
  refine (A4 _).mono ?_
  rintro e w4 ⟨rfl, x4⟩
  go_wp2_with fail
  refine (A5 _).mono ?_
  rintro e w5 ⟨rfl, x5⟩
  go_wp2_with fail
  refine (A6 _).mono ?_
  rintro e w6 ⟨rfl, x6⟩
  go_wp2_with fail
  refine (A7 _).mono ?_
  rintro e w7 ⟨rfl, x7⟩
  go_wp2_with fail
  refine (A8 _).mono ?_
  rintro e w8 ⟨rfl, x8⟩
  go_wp2_with fail
  refine (A9 _).mono ?_
  rintro e w9 ⟨rfl, x9⟩
  go_wp2_with fail
  go_ret
  exact ⟨rfl, ((((((((x0.trans x1).trans x2).trans x3).trans x4).trans x5).trans x6).trans x7).trans x8).trans x9⟩

theorem StampBounds_any (b : Bool) (x : Int) (w : World) (h0 : 0 ≤ x) (h1 : x ≤ 255) :
    Calls Try.prog 5 #[.bool b, .int .u8 x] w fun e w' => e = .returned (.bool true) ∧ Ext w w' := by
  cases b
  · exact StampBounds_false x w h0 h1
  · exact StampBounds_true x w h0 h1
end Go.Proofs.Ytgbcaiedlmejfaa
