/- The law StampInts answers true: the walk. -/
import Derived.Test.YtgbcaiedlmejfaaStampO
import Derived.Test.YtgbcaiedlmejfaaStampBoundsW
namespace Go.Proofs.Ytgbcaiedlmejfaa
open Go.RowKit

/-- The digits of the first number that is none; of the last one that is one. -/
def dOver : List Nat := [9, 2, 2, 3, 3, 7, 2, 0, 3, 6, 8, 5, 4, 7, 7, 5, 8, 0, 8]
def dLast : List Nat := [9, 2, 2, 3, 3, 7, 2, 0, 3, 6, 8, 5, 4, 7, 7, 5, 8, 0, 7]
theorem strN_over : strN (asc dOver) = { data := #[57, 50, 50, 51, 51, 55, 50, 48, 51, 54, 56, 53, 52, 55, 55, 53, 56, 48, 56] } := by decide
theorem strN_last : strN (asc dLast) = { data := #[57, 50, 50, 51, 51, 55, 50, 48, 51, 54, 56, 53, 52, 55, 55, 53, 56, 48, 55] } := by decide
theorem val_over : valD dOver = 9223372036854775808 := by decide
theorem val_last : valD dLast = 9223372036854775807 := by decide
theorem lt_over : ∀ d ∈ dOver, d < 10 := by decide
theorem lt_last : ∀ d ∈ dLast, d < 10 := by decide
theorem strN_nought : strN [48] = { data := #[48] } := by decide

/-- A whole number's text by the document: its sign, its digits. -/
theorem print_int (n : Int) (h : n ≠ -9223372036854775808) : printL n 0 = (if n < 0 then [45] else []) ++ asc (highD n.natAbs 0) := by
  have g : goodB n 0 = true := decide_eq_true ⟨by omega, by omega, h, .inl rfl⟩
  rw [print_is g]
  show _ ++ (_ ++ []) = _
  rw [List.append_nil]; rfl
theorem norm_int (n : Int) (hI : I64 n) (h : n ≠ -9223372036854775808) (w : World) :
    Calls Try.prog 21 #[.int .i64 n, .int .i64 0] w fun e w' => e = .returned (.tuple #[.agg #[.int .i64 n, .int .i64 0], .bool true]) ∧ Ext w w' := by
  have g : goodB n 0 = true := decide_eq_true ⟨by omega, by omega, h, .inl rfl⟩
  obtain ⟨o1, o2, o3⟩ := decSv_of g hI
  have := Norm_any n 0 w hI (by omega)
  rw [show (0 : Int).toNat = 0 from rfl] at o1 o2 o3
  rw [o1, o2, o3] at this
  exact this

theorem high_len (n : Int) (hI : I64 n) : (highD n.natAbs 0).length ≤ 20 := by
  have h10 : (9223372036854775808 : Nat) < 10 ^ 19 := by decide
  have : (digs (n.natAbs / 10 ^ 0 / 10)).length ≤ 19 := digs_length (by
    unfold I64 at hI
    rw [Nat.pow_zero, Nat.div_one]
    omega)
  unfold highD
  rw [List.length_append, List.length_singleton]
  omega

theorem zerosD_len (k : Nat) (A : List Nat) : (zerosD k A).length = k + A.length := by simp [zerosD]

set_option maxHeartbeats 8000000 in
set_option maxRecDepth 100000 in
theorem StampInts_neg (n x : Int) (w : World) (hI : I64 n) (hn : n < 0) (hm : n ≠ -9223372036854775808) (h0 : 0 ≤ x) (h1 : x ≤ 255) :
    Calls Try.prog 6 #[.int .i64 n, .int .u8 x] w fun e w' => e = .returned (.bool true) ∧ Ext w w' := by
  have N := fun w => norm_int n hI hm w
  have P := fun w => RPrint_any n 0 w hI (by unfold I64; omega)
  have hv : valD (highD (n : Int).natAbs 0) = (n : Int).natAbs := by rw [val_high]; simp
  have hl := highD_lt (n : Int).natAbs 0
  have hp := high_pos (n : Int).natAbs 0
  have hlen := high_len n hI
  rw [print_int n hm, if_pos hn] at P
  unfold decV at P
  have hnv : -(((n : Int).natAbs : Nat) : Int) = n := by omega
  rw [← hv] at hnv
  have hmx : valD (highD (n : Int).natAbs 0) ≤ 9223372036854775807 := by
    unfold I64 at hI
    rw [hv]; omega
  generalize highD (n : Int).natAbs 0 = A at *
  change ∀ w, Calls Try.prog 22 #[.agg #[.int .i64 n, .int .i64 0]] w fun e w' => e = .returned (.string (strN (45 :: asc A))) ∧ Ext w w' at P
  have cut := strN_tail 45 (asc A)
  have hz : (strN (45 :: asc A)).size = A.length + 1 := by rw [strN_size, List.length_cons, asc_length]
  rw [hz] at cut
  generalize strN (45 :: asc A) = T at *
  have F8 : ∀ w, Calls Try.prog 8 #[.string (strN (45 :: asc dOver))] w fun e w' => e = .returned (.tuple #[.int .i64 0, .int .i64 12, .int .i64 0]) ∧ w = w' := fun w => by
    have := Int_any (strN (45 :: asc dOver)) w (by rw [strN_size]; decide)
    rw [(wholeV_minus (byL_masc lt_over) (by decide) lt_over).2.1 (by decide)] at this
    exact this
  have F7 : ∀ w, Calls Try.prog 8 #[.string (strN (45 :: asc dLast))] w fun e w' => e = .returned (.tuple #[.int .i64 (-9223372036854775807), .int .i64 0, .int .i64 0]) ∧ w = w' := fun w => by
    have := Int_any (strN (45 :: asc dLast)) w (by rw [strN_size]; decide)
    rw [(wholeV_minus (byL_masc lt_last) (by decide) lt_last).1 (by decide), val_last] at this
    exact this
  have FA : ∀ k : Nat, k ≤ 9 → ∀ w, Calls Try.prog 8 #[.string (strN (45 :: asc (zerosD k A)))] w fun e w' => e = .returned (.tuple #[.int .i64 n, .int .i64 0, .int .i64 0]) ∧ w = w' := fun k hk w => by
    have hzl := zerosD_len k A
    have := Int_any (strN (45 :: asc (zerosD k A))) w (by rw [strN_size]; simp only [List.length_cons, asc_length]; omega)
    rw [(wholeV_minus (byL_masc (zerosD_lt hl)) (by omega) (zerosD_lt hl)).1 (by rw [zerosD_val]; omega), zerosD_val, hnv] at this
    exact this
  have FB : ∀ k : Nat, k ≤ 9 → ∀ w, Calls Try.prog 10 #[.string (strN (45 :: asc (zerosD k A)))] w fun e w' => e = .returned (.tuple #[.int .i64 0, .int .i64 11, .int .i64 0]) ∧ w = w' := fun k hk w => by
    have hzl := zerosD_len k A
    have := Uint_any (strN (45 :: asc (zerosD k A))) w (by rw [strN_size]; simp only [List.length_cons, asc_length]; omega)
    rw [(wholeV_minus (byL_masc (zerosD_lt hl)) (by omega) (zerosD_lt hl)).2.2] at this
    exact this
  have E8 := add_str [45] (asc dOver) (by decide)
  have E7 := add_str [45] (asc dLast) (by decide)
  rw [strN_over, strN_minus] at E8
  rw [strN_last, strN_minus] at E7
  change ∀ w, (Op.stringOp .add { data := #[45] } _).run Try.prog w = .ok (.string (strN (45 :: asc dOver))) w at E8
  change ∀ w, (Op.stringOp .add { data := #[45] } _).run Try.prog w = .ok (.string (strN (45 :: asc dLast))) w at E7
  generalize strN (45 :: asc dOver) = T8 at *
  generalize strN (45 :: asc dLast) = T7 at *
  have hx9 : 0 ≤ x % 9 ∧ x % 9 < 9 := by omega
  obtain ⟨k9, hk9⟩ : ∃ k9 : Nat, x % 9 = k9 := ⟨(x % 9).toNat, by omega⟩
  have hk : k9 ≤ 8 := by omega
  clear hx9 hmx hv
  go_enter Try.func6, Try.ntmps6
  go_wp2_with fail
  refine (known_any _).mono ?_
  rintro e w0 ⟨rfl, x0⟩
  go_wp2_with fail
  refine (N _).mono ?_
  rintro e w1 ⟨rfl, x1⟩
  go_wp2_with fail
  refine (P _).mono ?_
  rintro e w2 ⟨rfl, x2⟩
  go_wp2_with fail
  have hT : (1 : Int) ≤ (T.size : Int) := by omega
  go_region
  go_wp2_with fail
  go_loopw [7, 9] (fun p q wr => ∃ k : Nat, p = .string (strN (asc (zerosD k A))) ∧ q = .int .i64 k ∧ k ≤ k9 ∧ wr = w2.drew) (fun _ q _ => k9 - (intOf q).toNat)
  case atStart => exact ⟨0, rfl, rfl, Nat.zero_le _, rfl⟩
  case round =>
    obtain ⟨k, rfl, rfl, l1, rfl⟩ := hrel
    by_cases hin : k < k9
    · have E := add_str [48] (asc (zerosD k A)) (by rw [asc_length, zerosD_len]; simp only [List.length_cons, List.length_nil]; omega)
      rw [strN_nought] at E
      change ∀ w, (Op.stringOp .add { data := #[48] } _).run Try.prog w = .ok (.string (strN (asc (zerosD (k + 1) A)))) w at E
      generalize strN (asc (zerosD k A)) = Tk at *
      have hin2 : (k : Int) < x % 9 := by omega
      go_wp2_with fail
      go_roundw
      case rel => exact ⟨k + 1, rfl, rfl, hin, trivial⟩
      case measure => simp only [intOf]; omega
    · obtain rfl : k = k9 := by omega
      have EA := add_str [45] (asc (zerosD k A)) (by rw [asc_length, zerosD_len]; simp only [List.length_cons, List.length_nil]; omega)
      rw [strN_minus] at EA
      change ∀ w, (Op.stringOp .add { data := #[45] } _).run Try.prog w = .ok (.string (strN (45 :: asc (zerosD k A)))) w at EA
      have GA := FA k (by omega)
      have GB := FB k (by omega)
      clear FA FB
      generalize strN (45 :: asc (zerosD k A)) = TB at *
      generalize strN (asc (zerosD k A)) = TA at *
      go_wp2_with fail
      refine (GA _).mono ?_
      rintro e w3 ⟨rfl, rfl⟩
      go_wp2_with fail
      refine (GB _).mono ?_
      rintro e w4 ⟨rfl, rfl⟩
      go_wp2_with fail
      refine (F8 _).mono ?_
      rintro e w5 ⟨rfl, rfl⟩
      go_wp2_with fail
      refine (F7 _).mono ?_
      rintro e w6 ⟨rfl, rfl⟩
      go_wp2_with fail
      go_ret
      exact ⟨rfl, (((x0.trans x1).alloc _).trans x2).drew⟩

set_option maxHeartbeats 8000000 in
set_option maxRecDepth 100000 in
theorem StampInts_pos (n x : Int) (w : World) (hI : I64 n) (hn : ¬ n < 0) (hm : n ≠ -9223372036854775808) (h0 : 0 ≤ x) (h1 : x ≤ 255) :
    Calls Try.prog 6 #[.int .i64 n, .int .u8 x] w fun e w' => e = .returned (.bool true) ∧ Ext w w' := by
  have N := fun w => norm_int n hI hm w
  have P := fun w => RPrint_any n 0 w hI (by unfold I64; omega)
  have hv : valD (highD (n : Int).natAbs 0) = (n : Int).natAbs := by rw [val_high]; simp
  have hl := highD_lt (n : Int).natAbs 0
  have hp := high_pos (n : Int).natAbs 0
  have hlen := high_len n hI
  rw [print_int n hm, if_neg hn] at P
  unfold decV at P
  have hnv : (((n : Int).natAbs : Nat) : Int) = n := by omega
  rw [← hv] at hnv
  have hmx : valD (highD (n : Int).natAbs 0) ≤ 9223372036854775807 := by
    unfold I64 at hI
    rw [hv]; omega
  generalize highD (n : Int).natAbs 0 = A at *
  change ∀ w, Calls Try.prog 22 #[.agg #[.int .i64 n, .int .i64 0]] w fun e w' => e = .returned (.string (strN (asc A))) ∧ Ext w w' at P
  have F8 : ∀ w, Calls Try.prog 8 #[.string (strN (asc dOver))] w fun e w' => e = .returned (.tuple #[.int .i64 0, .int .i64 12, .int .i64 0]) ∧ w = w' := fun w => by
    have := Int_any (strN (asc dOver)) w (by rw [strN_size]; decide)
    rw [(wholeV_plus true (byL_asc lt_over) (by decide) lt_over).2 (by decide)] at this
    exact this
  have F7 : ∀ w, Calls Try.prog 8 #[.string (strN (asc dLast))] w fun e w' => e = .returned (.tuple #[.int .i64 9223372036854775807, .int .i64 0, .int .i64 0]) ∧ w = w' := fun w => by
    have := Int_any (strN (asc dLast)) w (by rw [strN_size]; decide)
    rw [(wholeV_plus true (byL_asc lt_last) (by decide) lt_last).1 (by decide), val_last] at this
    exact this
  have FA : ∀ k : Nat, k ≤ 9 → ∀ w, Calls Try.prog 8 #[.string (strN (asc (zerosD k A)))] w fun e w' => e = .returned (.tuple #[.int .i64 n, .int .i64 0, .int .i64 0]) ∧ w = w' := fun k hk w => by
    have hzl := zerosD_len k A
    have := Int_any (strN (asc (zerosD k A))) w (by rw [strN_size]; simp only [asc_length]; omega)
    rw [(wholeV_plus true (byL_asc (zerosD_lt hl)) (by omega) (zerosD_lt hl)).1 (by rw [zerosD_val]; omega), zerosD_val, hnv] at this
    exact this
  have FB : ∀ k : Nat, k ≤ 9 → ∀ w, Calls Try.prog 10 #[.string (strN (asc (zerosD k A)))] w fun e w' => e = .returned (.tuple #[.int .i64 n, .int .i64 0, .int .i64 0]) ∧ w = w' := fun k hk w => by
    have hzl := zerosD_len k A
    have := Uint_any (strN (asc (zerosD k A))) w (by rw [strN_size]; simp only [asc_length]; omega)
    rw [(wholeV_plus false (byL_asc (zerosD_lt hl)) (by omega) (zerosD_lt hl)).1 (by rw [zerosD_val]; omega), zerosD_val, hnv] at this
    exact this
  have E8 := add_str [] (asc dOver) (by decide)
  have E7 := add_str [] (asc dLast) (by decide)
  rw [strN_over, strN_nil] at E8
  rw [strN_last, strN_nil] at E7
  change ∀ w, (Op.stringOp .add { data := #[] } _).run Try.prog w = .ok (.string (strN (asc dOver))) w at E8
  change ∀ w, (Op.stringOp .add { data := #[] } _).run Try.prog w = .ok (.string (strN (asc dLast))) w at E7
  generalize strN (asc dOver) = T8 at *
  generalize strN (asc dLast) = T7 at *
  have hx9 : 0 ≤ x % 9 ∧ x % 9 < 9 := by omega
  obtain ⟨k9, hk9⟩ : ∃ k9 : Nat, x % 9 = k9 := ⟨(x % 9).toNat, by omega⟩
  have hk : k9 ≤ 8 := by omega
  clear hx9 hmx hv
  go_enter Try.func6, Try.ntmps6
  go_wp2_with fail
  refine (known_any _).mono ?_
  rintro e w0 ⟨rfl, x0⟩
  go_wp2_with fail
  refine (N _).mono ?_
  rintro e w1 ⟨rfl, x1⟩
  go_wp2_with fail
  refine (P _).mono ?_
  rintro e w2 ⟨rfl, x2⟩
  go_wp2_with fail
  go_loopw [7, 9] (fun p q wr => ∃ k : Nat, p = .string (strN (asc (zerosD k A))) ∧ q = .int .i64 k ∧ k ≤ k9 ∧ wr = w2) (fun _ q _ => k9 - (intOf q).toNat)
  case atStart => exact ⟨0, rfl, rfl, Nat.zero_le _, rfl⟩
  case round =>
    obtain ⟨k, rfl, rfl, l1, rfl⟩ := hrel
    by_cases hin : k < k9
    · have E := add_str [48] (asc (zerosD k A)) (by rw [asc_length, zerosD_len]; simp only [List.length_cons, List.length_nil]; omega)
      rw [strN_nought] at E
      change ∀ w, (Op.stringOp .add { data := #[48] } _).run Try.prog w = .ok (.string (strN (asc (zerosD (k + 1) A)))) w at E
      generalize strN (asc (zerosD k A)) = Tk at *
      have hin2 : (k : Int) < x % 9 := by omega
      go_wp2_with fail
      go_roundw
      case rel => exact ⟨k + 1, rfl, rfl, hin, trivial⟩
      case measure => simp only [intOf]; omega
    · obtain rfl : k = k9 := by omega
      have EA := add_str [] (asc (zerosD k A)) (by rw [asc_length, zerosD_len]; simp only [List.length_nil]; omega)
      rw [strN_nil] at EA
      change ∀ w, (Op.stringOp .add { data := #[] } _).run Try.prog w = .ok (.string (strN (asc (zerosD k A)))) w at EA
      have GA := FA k (by omega)
      have GB := FB k (by omega)
      clear FA FB
      generalize strN (asc (zerosD k A)) = TA at *
      go_wp2_with fail
      refine (GA _).mono ?_
      rintro e w3 ⟨rfl, rfl⟩
      go_wp2_with fail
      refine (GB _).mono ?_
      rintro e w4 ⟨rfl, rfl⟩
      go_wp2_with fail
      refine (F8 _).mono ?_
      rintro e w5 ⟨rfl, rfl⟩
      go_wp2_with fail
      refine (F7 _).mono ?_
      rintro e w6 ⟨rfl, rfl⟩
      go_wp2_with fail
      go_ret
      exact ⟨rfl, ((x0.trans x1).alloc _).trans x2⟩

set_option maxHeartbeats 8000000 in
set_option maxRecDepth 100000 in
theorem StampInts_min (x : Int) (w : World) (h0 : 0 ≤ x) (h1 : x ≤ 255) :
    Calls Try.prog 6 #[.int .i64 (-9223372036854775808), .int .u8 x] w fun e w' => e = .returned (.bool true) ∧ Ext w w' := by
  have hI : I64 (-9223372036854775807) := by unfold I64; omega
  have hn : (-9223372036854775807 : Int) < 0 := by omega
  have hm : (-9223372036854775807 : Int) ≠ -9223372036854775808 := by omega
  have N := fun w => norm_int (-9223372036854775807) hI hm w
  have P := fun w => RPrint_any (-9223372036854775807) 0 w hI (by unfold I64; omega)
  have hv : valD (highD ((-9223372036854775807) : Int).natAbs 0) = ((-9223372036854775807) : Int).natAbs := by rw [val_high]; simp
  have hl := highD_lt ((-9223372036854775807) : Int).natAbs 0
  have hp := high_pos ((-9223372036854775807) : Int).natAbs 0
  have hlen := high_len (-9223372036854775807) hI
  rw [print_int (-9223372036854775807) hm, if_pos hn] at P
  unfold decV at P
  have hnv : -((((-9223372036854775807) : Int).natAbs : Nat) : Int) = (-9223372036854775807) := by omega
  rw [← hv] at hnv
  have hmx : valD (highD ((-9223372036854775807) : Int).natAbs 0) ≤ 9223372036854775807 := by
    unfold I64 at hI
    rw [hv]; omega
  generalize highD ((-9223372036854775807) : Int).natAbs 0 = A at *
  change ∀ w, Calls Try.prog 22 #[.agg #[.int .i64 (-9223372036854775807), .int .i64 0]] w fun e w' => e = .returned (.string (strN (45 :: asc A))) ∧ Ext w w' at P
  have cut := strN_tail 45 (asc A)
  have hz : (strN (45 :: asc A)).size = A.length + 1 := by rw [strN_size, List.length_cons, asc_length]
  rw [hz] at cut
  generalize strN (45 :: asc A) = T at *
  have F8 : ∀ w, Calls Try.prog 8 #[.string (strN (45 :: asc dOver))] w fun e w' => e = .returned (.tuple #[.int .i64 0, .int .i64 12, .int .i64 0]) ∧ w = w' := fun w => by
    have := Int_any (strN (45 :: asc dOver)) w (by rw [strN_size]; decide)
    rw [(wholeV_minus (byL_masc lt_over) (by decide) lt_over).2.1 (by decide)] at this
    exact this
  have F7 : ∀ w, Calls Try.prog 8 #[.string (strN (45 :: asc dLast))] w fun e w' => e = .returned (.tuple #[.int .i64 (-9223372036854775807), .int .i64 0, .int .i64 0]) ∧ w = w' := fun w => by
    have := Int_any (strN (45 :: asc dLast)) w (by rw [strN_size]; decide)
    rw [(wholeV_minus (byL_masc lt_last) (by decide) lt_last).1 (by decide), val_last] at this
    exact this
  have FA : ∀ k : Nat, k ≤ 9 → ∀ w, Calls Try.prog 8 #[.string (strN (45 :: asc (zerosD k A)))] w fun e w' => e = .returned (.tuple #[.int .i64 (-9223372036854775807), .int .i64 0, .int .i64 0]) ∧ w = w' := fun k hk w => by
    have hzl := zerosD_len k A
    have := Int_any (strN (45 :: asc (zerosD k A))) w (by rw [strN_size]; simp only [List.length_cons, asc_length]; omega)
    rw [(wholeV_minus (byL_masc (zerosD_lt hl)) (by omega) (zerosD_lt hl)).1 (by rw [zerosD_val]; omega), zerosD_val, hnv] at this
    exact this
  have FB : ∀ k : Nat, k ≤ 9 → ∀ w, Calls Try.prog 10 #[.string (strN (45 :: asc (zerosD k A)))] w fun e w' => e = .returned (.tuple #[.int .i64 0, .int .i64 11, .int .i64 0]) ∧ w = w' := fun k hk w => by
    have hzl := zerosD_len k A
    have := Uint_any (strN (45 :: asc (zerosD k A))) w (by rw [strN_size]; simp only [List.length_cons, asc_length]; omega)
    rw [(wholeV_minus (byL_masc (zerosD_lt hl)) (by omega) (zerosD_lt hl)).2.2] at this
    exact this
  have E8 := add_str [45] (asc dOver) (by decide)
  have E7 := add_str [45] (asc dLast) (by decide)
  rw [strN_over, strN_minus] at E8
  rw [strN_last, strN_minus] at E7
  change ∀ w, (Op.stringOp .add { data := #[45] } _).run Try.prog w = .ok (.string (strN (45 :: asc dOver))) w at E8
  change ∀ w, (Op.stringOp .add { data := #[45] } _).run Try.prog w = .ok (.string (strN (45 :: asc dLast))) w at E7
  generalize strN (45 :: asc dOver) = T8 at *
  generalize strN (45 :: asc dLast) = T7 at *
  have hx9 : 0 ≤ x % 9 ∧ x % 9 < 9 := by omega
  obtain ⟨k9, hk9⟩ : ∃ k9 : Nat, x % 9 = k9 := ⟨(x % 9).toNat, by omega⟩
  have hk : k9 ≤ 8 := by omega
  clear hx9 hmx hv
  go_enter Try.func6, Try.ntmps6
  go_wp2_with fail
  refine (known_any _).mono ?_
  rintro e w0 ⟨rfl, x0⟩
  go_wp2_with fail
  refine (N _).mono ?_
  rintro e w1 ⟨rfl, x1⟩
  go_wp2_with fail
  refine (P _).mono ?_
  rintro e w2 ⟨rfl, x2⟩
  go_wp2_with fail
  have hT : (1 : Int) ≤ (T.size : Int) := by omega
  go_region
  go_wp2_with fail
  go_loopw [7, 9] (fun p q wr => ∃ k : Nat, p = .string (strN (asc (zerosD k A))) ∧ q = .int .i64 k ∧ k ≤ k9 ∧ wr = w2.drew) (fun _ q _ => k9 - (intOf q).toNat)
  case atStart => exact ⟨0, rfl, rfl, Nat.zero_le _, rfl⟩
  case round =>
    obtain ⟨k, rfl, rfl, l1, rfl⟩ := hrel
    by_cases hin : k < k9
    · have E := add_str [48] (asc (zerosD k A)) (by rw [asc_length, zerosD_len]; simp only [List.length_cons, List.length_nil]; omega)
      rw [strN_nought] at E
      change ∀ w, (Op.stringOp .add { data := #[48] } _).run Try.prog w = .ok (.string (strN (asc (zerosD (k + 1) A)))) w at E
      generalize strN (asc (zerosD k A)) = Tk at *
      have hin2 : (k : Int) < x % 9 := by omega
      go_wp2_with fail
      go_roundw
      case rel => exact ⟨k + 1, rfl, rfl, hin, trivial⟩
      case measure => simp only [intOf]; omega
    · obtain rfl : k = k9 := by omega
      have EA := add_str [45] (asc (zerosD k A)) (by rw [asc_length, zerosD_len]; simp only [List.length_cons, List.length_nil]; omega)
      rw [strN_minus] at EA
      change ∀ w, (Op.stringOp .add { data := #[45] } _).run Try.prog w = .ok (.string (strN (45 :: asc (zerosD k A)))) w at EA
      have GA := FA k (by omega)
      have GB := FB k (by omega)
      clear FA FB
      generalize strN (45 :: asc (zerosD k A)) = TB at *
      generalize strN (asc (zerosD k A)) = TA at *
      go_wp2_with fail
      refine (GA _).mono ?_
      rintro e w3 ⟨rfl, rfl⟩
      go_wp2_with fail
      refine (GB _).mono ?_
      rintro e w4 ⟨rfl, rfl⟩
      go_wp2_with fail
      refine (F8 _).mono ?_
      rintro e w5 ⟨rfl, rfl⟩
      go_wp2_with fail
      refine (F7 _).mono ?_
      rintro e w6 ⟨rfl, rfl⟩
      go_wp2_with fail
      go_ret
      exact ⟨rfl, (((x0.trans x1).alloc _).trans x2).drew⟩

theorem StampInts_any (n x : Int) (w : World) (hI : I64 n) (h0 : 0 ≤ x) (h1 : x ≤ 255) :
    Calls Try.prog 6 #[.int .i64 n, .int .u8 x] w fun e w' => e = .returned (.bool true) ∧ Ext w w' := by
  by_cases hm : n = -9223372036854775808
  · subst hm
    exact StampInts_min x w h0 h1
  · by_cases hn : n < 0
    · exact StampInts_neg n x w hI hn hm h0 h1
    · exact StampInts_pos n x w hI hn hm h0 h1
end Go.Proofs.Ytgbcaiedlmejfaa
