/- The walks of dec.digits, dec.number (alias Tryd). -/
import Derived.Test.YtiancppdcfahaaaDoorDcA
import Derived.Test.YtiancppdcfahaaaDoorRefD
namespace Go.Proofs.YtiancppdcfahaaaDoor
open Go.RowKit

set_option maxHeartbeats 4000000 in
set_option maxRecDepth 100000 in
theorem ddigits_any (s : ByteArray) (a : Nat) (w : World) (hs : s.size ≤ 9223372036854775807) (ha : a ≤ s.size) :
    Calls Tryd.prog 26 #[.string s, .int .i64 a] w fun e w' => e = .returned (.int .i64 (runL ((byL s).drop a))) ∧ w = w' := by
  go_enter Tryd.func26, Tryd.ntmps26
  go_wp2_with fail
  go_loopw [5] (fun x wr => ∃ n : Nat, x = .int .i64 n ∧ a + n ≤ s.size ∧ Hid (n + runL ((byL s).drop (a + n)) = runL ((byL s).drop a)) ∧ wr = w) (fun x _ => s.size - a - (intOf x).toNat)
  case atStart => exact ⟨0, rfl, ha, Lib.hid (by rw [Nat.add_zero, Nat.zero_add]), rfl⟩
  case round =>
    obtain ⟨n, rfl, l1, hr, rfl⟩ := hrel
    have e1 : IntKind.i64.wrap ((a : Int) + (n : Int)) = ((a + n : Nat) : Int) := by rw [IntWalk.i64_in _ (by omega)]; omega
    by_cases hin : a + n < s.size
    · have hr2 := hr.out
      rw [byL_drop s (a + n) hin, runL] at hr2
      have hc := s[a + n].toNat_lt
      by_cases hd : digB s[a + n].toNat = true
      · rw [if_pos hd] at hr2
        have HR : Hid (n + 1 + runL ((byL s).drop (a + (n + 1))) = runL ((byL s).drop a)) := Lib.hid (by rw [show a + (n + 1) = a + n + 1 from by omega]; omega)
        have h48 : 48 ≤ s[a + n].toNat ∧ s[a + n].toNat ≤ 57 := of_decide_eq_true hd
        clear hr hr2 hd
        go_wp2_with fail
        go_roundw
        case rel => exact ⟨n + 1, vI (by omega), by omega, HR, trivial⟩
        case measure => simp only [intOf]; omega
      · rw [if_neg hd] at hr2
        have HR := Lib.hid hr2
        have h48 : ¬ (48 ≤ s[a + n].toNat ∧ s[a + n].toNat ≤ 57) := fun h => hd (decide_eq_true h)
        clear hr hr2 hd
        rcases Nat.lt_or_ge s[a + n].toNat 48 with h4 | h4
        · clear h48
          go_wp2_with fail
          go_ret
          exact ⟨retI (by rw [← HR.out]; rfl), rfl⟩
        · have h5 : 57 < s[a + n].toNat := by omega
          clear h48
          go_wp2_with fail
          go_ret
          exact ⟨retI (by rw [← HR.out]; rfl), rfl⟩
    · have hr2 := hr.out
      rw [List.drop_eq_nil_of_le (by rw [byL_length]; omega), runL] at hr2
      have HR := Lib.hid hr2
      have hin2 : s.size ≤ a + n := by omega
      clear hr hr2
      go_wp2_with fail
      go_ret
      exact ⟨retI (by rw [← HR.out]; rfl), rfl⟩

set_option maxHeartbeats 4000000 in
set_option maxRecDepth 100000 in
theorem number_any (s : ByteArray) (A : List Nat) (w : World) (hs : s.size ≤ 9223372036854775807) (hA : ∀ d ∈ A, d < 10) (hb : byL s = asc A) :
    Calls Tryd.prog 19 #[.string s] w fun e w' => e = .returned (.tuple #[.int .i64 (if valD A ≤ 9223372036854775807 then (valD A : Int) else 0), .bool (decide (valD A ≤ 9223372036854775807))]) ∧ w = w' := by
  have hz : s.size = A.length := by rw [← byL_length, hb, asc_length]
  have hb' : Hid (byL s = asc A) := Lib.hid hb
  have hz' : Hid (s.size = A.length) := Lib.hid hz
  clear hb hz
  have HV : Hid (valD A ≤ 9223372036854775807 → (if valD A ≤ 9223372036854775807 then (valD A : Int) else 0) = (valD A : Int) ∧ decide (valD A ≤ 9223372036854775807) = true) := Lib.hid (fun h => ⟨if_pos h, decide_eq_true h⟩)
  have HW : Hid (¬ valD A ≤ 9223372036854775807 → (if valD A ≤ 9223372036854775807 then (valD A : Int) else 0) = 0 ∧ decide (valD A ≤ 9223372036854775807) = false) := Lib.hid (fun h => ⟨if_neg h, decide_eq_false h⟩)
  generalize (if valD A ≤ 9223372036854775807 then (valD A : Int) else 0) = V1 at *
  generalize decide (valD A ≤ 9223372036854775807) = V2 at *
  go_enter Tryd.func19, Tryd.ntmps19
  go_wp2_with fail
  go_loopw [4, 9] (fun x y wr => ∃ (n i : Nat), x = .int .i64 n ∧ y = .int .i64 i ∧ n ≤ 9223372036854775807 ∧ i ≤ s.size ∧ Hid (valD (A.take i) = n) ∧ wr = w) (fun _ y _ => s.size - (intOf y).toNat)
  case atStart => exact ⟨0, 0, rfl, rfl, by omega, by omega, rfl, rfl⟩
  case round =>
    obtain ⟨n, i, rfl, rfl, l1, l2, hr, rfl⟩ := hrel
    by_cases hin : i < s.size
    · have hiA : i < A.length := by have := hz'.out; omega
      have hd : s[i].toNat = 48 + A[i] := by
        have := byL_get s i hin
        rw [hb'.out, asc, List.getElem?_map, List.getElem?_eq_getElem hiA] at this
        injection this with this
        exact this.symm
      have hlt := hA A[i] (List.getElem_mem hiA)
      have hst := valD_take_succ A i hiA
      rw [hr.out] at hst
      generalize A[i] = d at *
      have hstH := Lib.hid hst
      clear hst
      by_cases hov : n > (9223372036854775807 - d) / 10
      · have hbig : Hid (¬ valD A ≤ 9223372036854775807) := Lib.hid (by
          have h1 := hstH.out
          have h2 := valD_take_le A (i + 1)
          omega)
        have hsub : IntKind.u8.wrap ((s[i].toNat : Int) - 48) = d := by rw [hd]; rw [IntWalk.u8_in _ (by omega)]; omega
        have hdec : (9223372036854775807 - (d : Int)) / 10 < (n : Int) := by omega
        clear hr hstH
        go_wp2_with fail
        go_ret2
        obtain ⟨a1, a2⟩ := HW.out hbig.out
        rw [a1, a2]
        exact ⟨rfl, rfl⟩
      · have hsub : IntKind.u8.wrap ((s[i].toNat : Int) - 48) = d := by rw [hd]; rw [IntWalk.u8_in _ (by omega)]; omega
        have hdec : ¬ (9223372036854775807 - (d : Int)) / 10 < (n : Int) := by omega
        have hr3 : n * 10 + d ≤ 9223372036854775807 := by omega
        clear hr
        go_wp2_with fail
        go_roundw
        case rel => exact ⟨n * 10 + d, i + 1, vI (by omega), vI (by omega), hr3, hin, hstH, trivial⟩
        case measure => simp only [intOf]; omega
    · obtain rfl : i = s.size := by omega
      have hv : Hid (valD A = n) := Lib.hid (by rw [← hr.out, List.take_of_length_le (by have := hz'.out; omega)])
      clear hr
      go_wp2_with fail
      go_ret2
      obtain ⟨a1, a2⟩ := HV.out (by rw [hv.out]; exact l1)
      rw [a1, a2, hv.out]
      exact ⟨rfl, rfl⟩
end Go.Proofs.YtiancppdcfahaaaDoor
