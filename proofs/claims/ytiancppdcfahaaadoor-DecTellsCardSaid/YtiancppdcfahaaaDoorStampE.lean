/- The walks of stamp.Text, strings.HasPrefix of a minus. -/
import Derived.Test.YtiancppdcfahaaaDoorStampD
namespace Go.Proofs.YtiancppdcfahaaaDoor
open Go.RowKit

/-- A time's text. -/
def textL (ms : Int) : List Nat := if timeB ms then printL (canZ ms 3).1.1 (canZ ms 3).1.2 else []

/-- A text's bytes. -/
def byL (s : ByteArray) : List Nat := s.data.toList.map (fun c => c.toNat)
theorem byL_length (s : ByteArray) : (byL s).length = s.size := by unfold byL; rw [List.length_map, Array.length_toList]; rfl
theorem byL_get (s : ByteArray) (i : Nat) (h : i < s.size) : (byL s)[i]? = some s[i].toNat := by
  unfold byL
  rw [List.getElem?_map]
  have _h2 : i < s.data.size := h
  have : s.data.toList[i]? = some s.data[i] := by simp
  rw [this]
  rfl
theorem byL_drop (s : ByteArray) (i : Nat) (h : i < s.size) : (byL s).drop i = s[i].toNat :: (byL s).drop (i + 1) := by
  have hl : i < (byL s).length := by rw [byL_length]; exact h
  rw [List.drop_eq_getElem_cons hl]
  have := byL_get s i h
  rw [List.getElem?_eq_getElem hl] at this
  injection this with this
  rw [this]
/-- Whether a text begins with a minus. -/
def minusB (s : ByteArray) : Bool := (byL s).head? == some 45

set_option maxRecDepth 100000 in
theorem slHasPrefix_any (s : ByteArray) (w : World) (hs : s.size ≤ 9223372036854775807) :
    Calls Tryd.prog 37 #[.string s, .string { data := #[45] }] w fun e w' => e = .returned (.bool (minusB s)) ∧ w = w' := by
  by_cases h0 : 0 < s.size
  · go_enter Tryd.func37, Tryd.ntmps37
    go_wp2_with fail
    go_ret
    refine ⟨retB ?_, rfl⟩
    unfold minusB byL
    rw [ByteArray.toList_eq, show (s.extract 0 1).data = s.data.extract 0 1 from by simp, Array.toList_extract]
    have h1 : 0 < s.data.toList.length := by rw [Array.length_toList]; exact h0
    cases hl : s.data.toList with
    | nil => rw [hl] at h1; simp at h1
    | cons c l =>
      simp
      by_cases hc : c = 45
      · subst hc; rfl
      · rw [show (c == 45) = false from by simpa using hc]
        have : c.toNat ≠ 45 := fun h => hc (UInt8.toNat_inj.1 h)
        exact (by simpa using this)
  · have hm : Hid (minusB s = false) := Lib.hid (by
      unfold minusB
      have : byL s = [] := List.eq_nil_of_length_eq_zero (by rw [byL_length]; omega)
      rw [this]; rfl)
    go_enter Tryd.func37, Tryd.ntmps37
    go_wp2_with fail
    go_ret
    exact ⟨retB hm.out.symm, rfl⟩
set_option maxRecDepth 100000 in
theorem HasPrefix_any (s : ByteArray) (w : World) (hs : s.size ≤ 9223372036854775807) :
    Calls Tryd.prog 25 #[.string s, .string { data := #[45] }] w fun e w' => e = .returned (.bool (minusB s)) ∧ w = w' := by
  have C := fun w => slHasPrefix_any s w hs
  generalize minusB s = b at *
  go_enter Tryd.func25, Tryd.ntmps25
  go_wp2_with fail
  refine (C _).mono ?_
  rintro e w1 ⟨rfl, rfl⟩
  go_wp2_with fail
  go_ret
  exact ⟨rfl, rfl⟩
end Go.Proofs.YtiancppdcfahaaaDoor
