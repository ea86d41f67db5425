/- The walks of stamp.Text, strings.HasPrefix of a minus. -/
import Derived.Test.YtgbcaiedlmejfaaStampD
namespace Go.Proofs.Ytgbcaiedlmejfaa
open Go.RowKit

/-- A time's text. -/
def textL (ms : Int) : List Nat := if timeB ms then printL (canZ ms 3).1.1 (canZ ms 3).1.2 else []

set_option maxHeartbeats 4000000 in
set_option maxRecDepth 100000 in
theorem Text_any (ms : Int) (w : World) (h : I64 ms) :
    Calls Try.prog 14 #[.int .i64 ms] w fun e w' => e = .returned (.string (strN (textL ms))) ∧ Ext w w' := by
  have T := fun w => isTime_any ms w
  by_cases ht : timeB ms = true
  · rw [ht] at T
    have hT : Hid (textL ms = printL (canZ ms 3).1.1 (canZ ms 3).1.2) := if_pos ht
    obtain ⟨g, i⟩ := canZ_is_good ms 3
    have hs := good_range g
    have C1 : ∀ w, Calls Try.prog 31 #[.int .i64 ms, .int .i64 3] w fun e w' => e = .returned (.tuple #[.agg #[.int .i64 (canZ ms 3).1.1, .int .i64 (canZ ms 3).1.2], .bool (canZ ms 3).2]) ∧ Ext w w' := fun w => DNorm_any ms 3 w h (by omega)
    have C2 : ∀ w, Calls Try.prog 32 #[.agg #[.int .i64 (canZ ms 3).1.1, .int .i64 (canZ ms 3).1.2]] w fun e w' => e = .returned (.string (strN (printL (canZ ms 3).1.1 (canZ ms 3).1.2))) ∧ Ext w w' := fun w => Print_any _ _ w i (by unfold I64; omega)
    rw [hT.out]
    generalize strN (printL (canZ ms 3).1.1 (canZ ms 3).1.2) = R at *
    generalize (canZ ms 3).1.1 = M at *
    generalize (canZ ms 3).1.2 = S at *
    generalize (canZ ms 3).2 = ok at *
    clear ht g i hs hT h
    go_enter Try.func14, Try.ntmps14
    go_wp2_with fail
    refine (T _).mono ?_
    rintro e w1 ⟨rfl, x1⟩
    go_wp2_with fail
    refine (C1 _).mono ?_
    rintro e w2 ⟨rfl, x2⟩
    go_wp2_with fail
    refine (C2 _).mono ?_
    rintro e w3 ⟨rfl, x3⟩
    go_wp2_with fail
    go_ret
    exact ⟨rfl, ((x1.trans x2).alloc _).trans x3⟩
  · have hT : Hid (textL ms = []) := if_neg ht
    rw [show timeB ms = false from by simpa using ht] at T
    clear ht
    go_enter Try.func14, Try.ntmps14
    go_wp2_with fail
    refine (T _).mono ?_
    rintro e w1 ⟨rfl, x1⟩
    go_wp2_with fail
    go_ret
    rw [hT.out]
    exact ⟨rfl, x1⟩

/-- A text's bytes. -/
def byL (s : ByteArray) : List Nat := s.data.toList.map (fun c => c.toNat)
theorem byL_length (s : ByteArray) : (byL s).length = s.size := by unfold byL; rw [List.length_map, Array.length_toList]; rfl
theorem byL_get (s : ByteArray) (i : Nat) (h : i < s.size) : (byL s)[i]? = some s[i].toNat := by
  unfold byL
  rw [List.getElem?_map]
  have _h2 : i < s.data.size := h
  have : s.data.toList[i]? = some s.data[i] := by simp
  rw [this]
  rfl
theorem byL_drop (s : ByteArray) (i : Nat) (h : i < s.size) : (byL s).drop i = s[i].toNat :: (byL s).drop (i + 1) := by
  have hl : i < (byL s).length := by rw [byL_length]; exact h
  rw [List.drop_eq_getElem_cons hl]
  have := byL_get s i h
  rw [List.getElem?_eq_getElem hl] at this
  injection this with this
  rw [this]
/-- Whether a text begins with a minus. -/
def minusB (s : ByteArray) : Bool := (byL s).head? == some 45

set_option maxRecDepth 100000 in
theorem slHasPrefix_any (s : ByteArray) (w : World) (hs : s.size ≤ 9223372036854775807) :
    Calls Try.prog 45 #[.string s, .string { data := #[45] }] w fun e w' => e = .returned (.bool (minusB s)) ∧ w = w' := by
  by_cases h0 : 0 < s.size
  · go_enter Try.func45, Try.ntmps45
    go_wp2_with fail
    go_ret
    refine ⟨retB ?_, rfl⟩
    unfold minusB byL
    rw [ByteArray.toList_eq, show (s.extract 0 1).data = s.data.extract 0 1 from by simp, Array.toList_extract]
    have h1 : 0 < s.data.toList.length := by rw [Array.length_toList]; exact h0
    cases hl : s.data.toList with
    | nil => rw [hl] at h1; simp at h1
    | cons c l =>
      simp
      by_cases hc : c = 45
      · subst hc; rfl
      · rw [show (c == 45) = false from by simpa using hc]
        have : c.toNat ≠ 45 := fun h => hc (UInt8.toNat_inj.1 h)
        exact (by simpa using this)
  · have hm : Hid (minusB s = false) := Lib.hid (by
      unfold minusB
      have : byL s = [] := List.eq_nil_of_length_eq_zero (by rw [byL_length]; omega)
      rw [this]; rfl)
    go_enter Try.func45, Try.ntmps45
    go_wp2_with fail
    go_ret
    exact ⟨retB hm.out.symm, rfl⟩
set_option maxRecDepth 100000 in
theorem HasPrefix_any (s : ByteArray) (w : World) (hs : s.size ≤ 9223372036854775807) :
    Calls Try.prog 38 #[.string s, .string { data := #[45] }] w fun e w' => e = .returned (.bool (minusB s)) ∧ w = w' := by
  have C := fun w => slHasPrefix_any s w hs
  generalize minusB s = b at *
  go_enter Try.func38, Try.ntmps38
  go_wp2_with fail
  refine (C _).mono ?_
  rintro e w1 ⟨rfl, rfl⟩
  go_wp2_with fail
  go_ret
  exact ⟨rfl, rfl⟩
end Go.Proofs.Ytgbcaiedlmejfaa
