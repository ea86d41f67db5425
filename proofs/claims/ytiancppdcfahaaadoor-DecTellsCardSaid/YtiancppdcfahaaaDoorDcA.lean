/- The walks of dec.digits, dec.number, strings.TrimLeft, strings.TrimRight at noughts (alias Tryd). -/
import Derived.Test.YtiancppdcfahaaaDoorStampK
import Derived.Test.YtiancppdcfahaaaDoorStampL
namespace Go.Proofs.YtiancppdcfahaaaDoor
open Go.RowKit

theorem byL_extract (s : ByteArray) (a b : Nat) : byL (s.extract a b) = ((byL s).drop a).take (b - a) := by
  unfold byL
  rw [show (s.extract a b).data = s.data.extract a b from by simp, Array.toList_extract]
  simp [List.map_drop, List.map_take, List.extract]
theorem byL_append (s t : ByteArray) : byL (s ++ t) = byL s ++ byL t := by simp [byL]
theorem byL_inj {s t : ByteArray} (h : byL s = byL t) : s = t := by
  unfold byL at h
  have h2 : s.data.toList = t.data.toList := by
    have inj : Function.Injective (fun c : UInt8 => c.toNat) := fun a b h => UInt8.toNat_inj.1 h
    exact (List.map_inj_right (fun a b h => UInt8.toNat_inj.1 h)).1 h
  cases s with
  | mk a => cases t with
    | mk b => simp at h2; rw [h2]

/-- Noughts ahead. -/
def dropL (l : List Nat) : List Nat := l.dropWhile (· == 48)
/-- Noughts behind. -/
def dropR (l : List Nat) : List Nat := (l.reverse.dropWhile (· == 48)).reverse
theorem dropL_cons (c : Nat) (l : List Nat) : dropL (c :: l) = if c = 48 then dropL l else c :: l := by
  unfold dropL
  by_cases h : c = 48
  · subst h; rfl
  · rw [if_neg h, List.dropWhile_cons_of_neg (by simpa using h)]
theorem dropR_snoc (c : Nat) (l : List Nat) : dropR (l ++ [c]) = if c = 48 then dropR l else l ++ [c] := by
  unfold dropR
  rw [List.reverse_append]
  show ((c :: l.reverse).dropWhile _).reverse = _
  by_cases h : c = 48
  · subst h; rfl
  · rw [if_neg h, List.dropWhile_cons_of_neg (by simpa using h)]; simp
theorem byL_last (s : ByteArray) (n : Nat) (h : s.size = n + 1) : byL s = (byL s).take n ++ [(s[n]'(by omega)).toNat] := by
  have hl : n < (byL s).length := by rw [byL_length]; omega
  have e := byL_get s n (by omega)
  rw [List.getElem?_eq_getElem hl] at e
  injection e with e
  rw [← e]
  have h3 := List.take_succ_eq_append_getElem hl
  rw [List.take_of_length_le (by rw [byL_length]; omega)] at h3
  exact h3

set_option maxHeartbeats 4000000 in
set_option maxRecDepth 100000 in
theorem trimLeftByte_any (s : ByteArray) (w : World) (_hs : s.size ≤ 9223372036854775807) :
    Calls Tryd.prog 31 #[.string s, .int .u8 48] w fun e w' => ∃ t : ByteArray, (e = .returned (.string t) ∧ t.size ≤ s.size ∧ byL t = dropL (byL s)) ∧ w = w' := by
  go_enter Tryd.func31, Tryd.ntmps31
  go_wp2_with fail
  go_loopw [0] (fun x wr => ∃ t : ByteArray, x = .string t ∧ t.size ≤ s.size ∧ Hid (dropL (byL t) = dropL (byL s)) ∧ wr = w) (fun x _ => match x with | .string t => t.size | _ => 0)
  case atStart => exact ⟨s, rfl, Nat.le_refl _, rfl, rfl⟩
  case round =>
    obtain ⟨t, rfl, l1, hr, rfl⟩ := hrel
    by_cases hin : 0 < t.size
    · have hr2 := hr.out
      have hd0 := byL_drop t 0 hin
      rw [List.drop_zero] at hd0
      have hc := t[0].toNat_lt
      rw [hd0, dropL_cons] at hr2
      by_cases h48 : t[0].toNat = 48
      · rw [if_pos h48] at hr2
        have hn : byL (t.extract 1 t.size) = (byL t).drop 1 := by
          rw [byL_extract, List.take_of_length_le (by rw [List.length_drop, byL_length]; omega)]
        have hz : (t.extract 1 t.size).size = t.size - 1 := by simp
        have HR : Hid (dropL (byL (t.extract 1 t.size)) = dropL (byL s)) := Lib.hid (by rw [hn]; exact hr2)
        clear hr hr2 hd0 hn
        have HZ := Lib.hid hz
        clear hz
        go_wp2_with fail
        go_roundw
        case rel => exact ⟨_, rfl, by have := HZ.out; omega, HR, trivial⟩
        case measure => have := HZ.out; simp only []; omega
      · rw [if_neg h48, ← hd0] at hr2
        have HR := Lib.hid hr2
        clear hr hr2 hd0
        go_wp2_with fail
        go_ret
        exact ⟨t, ⟨rfl, l1, HR.out⟩, rfl⟩
    · have hr2 := hr.out
      have h0 : byL t = [] := List.eq_nil_of_length_eq_zero (by rw [byL_length]; omega)
      rw [h0] at hr2
      have HR : Hid (byL t = dropL (byL s)) := Lib.hid (by rw [h0]; exact hr2)
      clear hr hr2 h0
      go_wp2_with fail
      go_ret
      exact ⟨t, ⟨rfl, l1, HR.out⟩, rfl⟩

set_option maxHeartbeats 4000000 in
set_option maxRecDepth 100000 in
theorem trimRightByte_any (s : ByteArray) (w : World) (hs : s.size ≤ 9223372036854775807) :
    Calls Tryd.prog 27 #[.string s, .int .u8 48] w fun e w' => ∃ t : ByteArray, (e = .returned (.string t) ∧ t.size ≤ s.size ∧ byL t = dropR (byL s)) ∧ w = w' := by
  go_enter Tryd.func27, Tryd.ntmps27
  go_wp2_with fail
  go_loopw [0] (fun x wr => ∃ t : ByteArray, x = .string t ∧ t.size ≤ s.size ∧ Hid (dropR (byL t) = dropR (byL s)) ∧ wr = w) (fun x _ => match x with | .string t => t.size | _ => 0)
  case atStart => exact ⟨s, rfl, Nat.le_refl _, rfl, rfl⟩
  case round =>
    obtain ⟨t, rfl, l1, hr, rfl⟩ := hrel
    by_cases hin : 0 < t.size
    · obtain ⟨n, hn⟩ : ∃ n, t.size = n + 1 := ⟨t.size - 1, by omega⟩
      have hr2 := hr.out
      have hd0 := byL_last t n hn
      have hc := (t[n]'(by omega)).toNat_lt
      rw [hd0, dropR_snoc] at hr2
      have e1 : IntKind.i64.wrap ((t.size : Int) - 1) = (n : Int) := by rw [IntWalk.i64_in _ (by omega)]; omega
      by_cases h48 : (t[n]'(by omega)).toNat = 48
      · rw [if_pos h48] at hr2
        have hn2 : byL (t.extract 0 n) = (byL t).take n := by
          rw [byL_extract, List.drop_zero, Nat.sub_zero]
        have hz : (t.extract 0 n).size = n := by simp; omega
        have HR : Hid (dropR (byL (t.extract 0 n)) = dropR (byL s)) := Lib.hid (by rw [hn2]; exact hr2)
        clear hr hr2 hd0 hn2
        have HZ := Lib.hid hz
        have HN := Lib.hid hn
        clear hz
        go_wp2_with fail
        go_roundw
        case rel => exact ⟨_, rfl, by have := HZ.out; have := HN.out; omega, HR, trivial⟩
        case measure => have := HZ.out; have := HN.out; simp only []; omega
      · rw [if_neg h48, ← hd0] at hr2
        have HR := Lib.hid hr2
        clear hr hr2 hd0
        go_wp2_with fail
        go_ret
        exact ⟨t, ⟨rfl, l1, HR.out⟩, rfl⟩
    · have hr2 := hr.out
      have h0 : byL t = [] := List.eq_nil_of_length_eq_zero (by rw [byL_length]; omega)
      rw [h0] at hr2
      have HR : Hid (byL t = dropR (byL s)) := Lib.hid (by rw [h0]; exact hr2)
      clear hr hr2 h0
      go_wp2_with fail
      go_ret
      exact ⟨t, ⟨rfl, l1, HR.out⟩, rfl⟩

set_option maxRecDepth 100000 in
theorem TrimLeft_any (s : ByteArray) (w : World) (hs : s.size ≤ 9223372036854775807) :
    Calls Tryd.prog 20 #[.string s, .string { data := #[48] }] w fun e w' => ∃ t : ByteArray, (e = .returned (.string t) ∧ t.size ≤ s.size ∧ byL t = dropL (byL s)) ∧ w = w' := by
  by_cases h0 : s.size = 0
  · have h1 : Hid (byL s = dropL (byL s)) := Lib.hid (by
      have : byL s = [] := List.eq_nil_of_length_eq_zero (by rw [byL_length]; omega)
      rw [this]; rfl)
    obtain rfl : s = { data := #[] } := by
      apply byL_inj
      exact List.eq_nil_of_length_eq_zero (by rw [byL_length]; exact h0)
    go_enter Tryd.func20, Tryd.ntmps20
    go_wp2_with fail
    go_ret
    exact ⟨_, ⟨rfl, Nat.le_refl _, h1.out⟩, rfl⟩
  · have C := fun w => trimLeftByte_any s w hs
    have hne : ∀ t, (binOp .eql t (.string s) (.string { data := #[] })) = pure (.bool false) := by
      intro t
      simp only [go_sem]
      rw [show (s.toList == ByteArray.toList { data := #[] }) = false from by
        apply beq_eq_false_iff_ne.2
        intro h
        rw [ByteArray.toList_eq, ByteArray.toList_eq] at h
        have h2 := congrArg List.length h
        rw [Array.length_toList] at h2
        exact h0 h2]
    go_enter Tryd.func20, Tryd.ntmps20
    go_wp2_with fail
    refine (C _).mono ?_
    rintro e w1 ⟨t, ⟨rfl, h1, h2⟩, rfl⟩
    have HH := Lib.hid (And.intro h1 h2)
    clear h1 h2
    go_wp2_with fail
    go_ret
    exact ⟨t, ⟨rfl, HH.out.1, HH.out.2⟩, rfl⟩

set_option maxRecDepth 100000 in
theorem TrimRight_any (s : ByteArray) (w : World) (hs : s.size ≤ 9223372036854775807) :
    Calls Tryd.prog 18 #[.string s, .string { data := #[48] }] w fun e w' => ∃ t : ByteArray, (e = .returned (.string t) ∧ t.size ≤ s.size ∧ byL t = dropR (byL s)) ∧ w = w' := by
  by_cases h0 : s.size = 0
  · have h1 : Hid (byL s = dropR (byL s)) := Lib.hid (by
      have : byL s = [] := List.eq_nil_of_length_eq_zero (by rw [byL_length]; omega)
      rw [this]; rfl)
    obtain rfl : s = { data := #[] } := by
      apply byL_inj
      exact List.eq_nil_of_length_eq_zero (by rw [byL_length]; exact h0)
    go_enter Tryd.func18, Tryd.ntmps18
    go_wp2_with fail
    go_ret
    exact ⟨_, ⟨rfl, Nat.le_refl _, h1.out⟩, rfl⟩
  · have C := fun w => trimRightByte_any s w hs
    have hne : ∀ t, (binOp .eql t (.string s) (.string { data := #[] })) = pure (.bool false) := by
      intro t
      simp only [go_sem]
      rw [show (s.toList == ByteArray.toList { data := #[] }) = false from by
        apply beq_eq_false_iff_ne.2
        intro h
        rw [ByteArray.toList_eq, ByteArray.toList_eq] at h
        have h2 := congrArg List.length h
        rw [Array.length_toList] at h2
        exact h0 h2]
    go_enter Tryd.func18, Tryd.ntmps18
    go_wp2_with fail
    refine (C _).mono ?_
    rintro e w1 ⟨t, ⟨rfl, h1, h2⟩, rfl⟩
    have HH := Lib.hid (And.intro h1 h2)
    clear h1 h2
    go_wp2_with fail
    go_ret
    exact ⟨t, ⟨rfl, HH.out.1, HH.out.2⟩, rfl⟩
end Go.Proofs.YtiancppdcfahaaaDoor
