/- The walks of the document's isDigit, run. -/
import Derived.Test.YtiancppdcfahaaaDoorStampE
namespace Go.Proofs.YtiancppdcfahaaaDoor
open Go.RowKit

/-- Whether a byte is a digit. -/
def digB (c : Nat) : Bool := decide (48 ≤ c ∧ c ≤ 57)
set_option maxRecDepth 100000 in
theorem isDigit_any (c : Nat) (w : World) (hc : c < 256) :
    Calls Tryd.prog 22 #[.int .u8 c] w fun e w' => e = .returned (.bool (digB c)) ∧ w = w' := by
  by_cases h1 : 48 ≤ c
  · by_cases h2 : c ≤ 57
    · have H : Hid (digB c = true) := decide_eq_true ⟨h1, h2⟩
      go_enter Tryd.func22, Tryd.ntmps22
      go_wp2_with fail
      go_ret
      exact ⟨retB (by rw [H.out]; simp; omega), rfl⟩
    · have H : Hid (digB c = false) := decide_eq_false (fun h => h2 h.2)
      go_enter Tryd.func22, Tryd.ntmps22
      go_wp2_with fail
      go_ret
      exact ⟨retB (by rw [H.out]; simp; omega), rfl⟩
  · have H : Hid (digB c = false) := decide_eq_false (fun h => h1 h.1)
    go_enter Tryd.func22, Tryd.ntmps22
    go_wp2_with fail
    go_ret
    exact ⟨retB H.out.symm, rfl⟩

/-- How many digits a list begins with. -/
def runL : List Nat → Nat
  | [] => 0
  | d :: l => if digB d then runL l + 1 else 0

set_option maxHeartbeats 4000000 in
set_option maxRecDepth 100000 in
theorem run_any (s : ByteArray) (a : Nat) (w : World) (hs : s.size ≤ 9223372036854775807) (ha : a ≤ s.size) :
    Calls Tryd.prog 21 #[.string s, .int .i64 a] w fun e w' => e = .returned (.int .i64 ((a + runL ((byL s).drop a) : Nat) : Int)) ∧ w = w' := by
  go_enter Tryd.func21, Tryd.ntmps21
  go_wp2_with fail
  go_loopw [1] (fun x wr => ∃ i : Nat, x = .int .i64 i ∧ i ≤ s.size ∧ Hid (i + runL ((byL s).drop i) = a + runL ((byL s).drop a)) ∧ wr = w) (fun x _ => s.size - (intOf x).toNat)
  case atStart => exact ⟨a, rfl, ha, rfl, rfl⟩
  case round =>
    obtain ⟨i, rfl, l1, hr, rfl⟩ := hrel
    by_cases hin : i < s.size
    · have hr2 := hr.out
      rw [byL_drop s i hin, runL] at hr2
      have C := fun w => isDigit_any s[i].toNat w (by have := s[i].toNat_lt; omega)
      by_cases hd : digB s[i].toNat = true
      · rw [if_pos hd] at hr2
        rw [hd] at C
        have HR : Hid (i + 1 + runL ((byL s).drop (i + 1)) = a + runL ((byL s).drop a)) := Lib.hid (by omega)
        clear hr hr2 hd
        go_wp2_with fail
        refine (C _).mono ?_
        rintro e w1 ⟨rfl, rfl⟩
        go_wp2_with fail
        go_roundw
        case rel => exact ⟨i + 1, rfl, hin, HR, trivial⟩
        case measure => simp only [intOf]; omega
      · rw [if_neg hd] at hr2
        rw [show digB s[i].toNat = false from by simpa using hd] at C
        have HR := Lib.hid hr2
        clear hr hr2 hd
        go_wp2_with fail
        refine (C _).mono ?_
        rintro e w1 ⟨rfl, rfl⟩
        go_wp2_with fail
        go_ret
        exact ⟨retI (by rw [← HR.out]; rfl), rfl⟩
    · obtain rfl : i = s.size := by omega
      have hr2 := hr.out
      rw [List.drop_eq_nil_of_le (by rw [byL_length]; exact Nat.le_refl _), runL] at hr2
      have HR := Lib.hid hr2
      clear hr hr2
      go_wp2_with fail
      go_ret
      exact ⟨retI (by rw [← HR.out]; rfl), rfl⟩
end Go.Proofs.YtiancppdcfahaaaDoor
